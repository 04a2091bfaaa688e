import Derived.Test.YtlcikmddmcdeeaaRM
namespace Go.Proofs.Ytlcikmddmcdeeaa
open Go.SX Go.RowKit
theorem newRows_nil (w w' : World) (k : Nat) (T : TypeId) : NewRows w w' (.slice none 0 0) k T [] := ⟨⟨none, 0⟩, rfl, fun _ => False, fun _ h => h.elim, by simp, Nat.le_refl _, .inl ⟨rfl, rfl, fun _ h => h⟩⟩
theorem takenL_eq (x : InstrV) : takenL x = if x.op = 3 ∨ x.op = 6 then [x.a, x.b] else if x.op = 4 ∨ x.op = 5 ∨ x.op = 7 ∨ x.op = 8 ∨ x.op = 9 then [x.a] else [] := by
  unfold takenL takesN
  by_cases h1 : x.op = 1 ∨ x.op = 2
  · rw [if_pos h1, if_neg (by omega), if_neg (by omega)]; rfl
  · rw [if_neg h1]
    by_cases h2 : x.op = 4 ∨ x.op = 5 ∨ x.op = 7 ∨ x.op = 8 ∨ x.op = 9
    · rw [if_pos h2, if_neg (by omega), if_pos h2]; rfl
    · rw [if_neg h2]
      by_cases h3 : x.op = 3 ∨ x.op = 6
      · rw [if_pos h3, if_pos h3]; rfl
      · rw [if_neg h3, if_neg h3, if_neg h2]; rfl
theorem refTakes_any (w : World) (x : InstrV) : Calls Try.prog 8 #[x.val] w fun e w' => ∃ u : Unit, True ∧ ∃ v, e = .returned v ∧ Ext w w' ∧ NewRows w w' v 1 3 (ints (takenL x)) := by
  rw [takenL_eq]
  refine calls_of tab tabOk Try.func8 rfl rfl rfl [] (fun _ => ⟨none, 0⟩) [.agg [.c (.int .i64 x.op), .c (.int .i64 x.to), .c (.int .i64 x.a), .c (.int .i64 x.b), .c (.int .i64 x.k)]] [] (baseA w) 0 rfl rfl (by show 1 ≤ _; decide) (abs_base w) ?_
  (repeat' ((conv => whnf) <;> first | (show Wp _ _ _ _ _ _ _; (refine Wp.go tabOk rfl ?_)) | (show @cmpK _ _ _; (first | refine cmp_yes (by omega) ?_ | refine cmp_no (by omega) ?_ | (refine cmp_both ?_ ?_ <;> intro _))) | (show wrapK _ _ _; (refine wrap_i64 (by omega) (by omega) ?_)) | (show leK _ _ _; (refine le_of (by first | exact Nat.le_refl _ | omega) ?_)) | (show roomK _ _ _; (refine room_of (by first | omega | (dsimp only; omega)) ?_)) | (show ltK _ _ _; (refine lt_of (by omega) ?_)) | (show _ ∧ _; (refine ⟨?_, ?_⟩)) | (show keepK _ _ _ _ _; (refine keep_of (by first | exact List.Sublist.refl _ | exact List.Sublist.cons _ (List.Sublist.refl _) | exact List.Sublist.cons _ (List.Sublist.cons _ (List.Sublist.refl _)) | exact List.Sublist.cons _ (List.Sublist.cons _ (List.Sublist.cons _ (List.Sublist.refl _)))) (by first | exact (fun _ _ h => h) | exact (fun _ _ h => h.1) | exact (fun _ _ h => h.1.1)) ?_)) | (show ownK _ _ _ _ _; (refine own_keep ?_))))
  all_goals (conv => whnf)
  all_goals first
    | (rw [if_pos (by omega)]; exact fin_of fun ρ w' hw => ⟨(), trivial, _, rfl, ext_of_abs hw (fun _ _ h => h), new_of_abs hw (fun _ _ h => h) List.mem_cons_self⟩)
    | (rw [if_neg (by omega), if_pos (by omega)]; exact fin_of fun ρ w' hw => ⟨(), trivial, _, rfl, ext_of_abs hw (fun _ _ h => h), new_of_abs hw (fun _ _ h => h) List.mem_cons_self⟩)
    | (rw [if_neg (by omega), if_neg (by omega)]; exact fin_of fun ρ w' hw => ⟨(), trivial, _, rfl, ext_of_abs hw (fun _ _ h => h), newRows_nil _ _ _ _⟩)
theorem need_pos {l : List InstrV} {i m k : Nat} {y : InstrV} (hy : l[i]? = some y) (hm : m ≤ i) (hk : (k : Int) ∈ takenL y) : 0 < need l k m := by
  have h1 : (k : Int) ∈ (l.drop m).flatMap takenL := by
    refine List.mem_flatMap.2 ⟨y, ?_, hk⟩
    have : (l.drop m)[i - m]? = some y := by rw [List.getElem?_drop]; rw [show m + (i - m) = i by omega]; exact hy
    exact List.mem_of_getElem? this
  have := List.count_pos_iff.2 h1
  unfold need; omega
/-- what each register holds: the last result that was put there -/
def holdsAt (reg : List Int) (n : Nat) : Nat → List Int
  | 0 => List.replicate n (-1)
  | i + 1 => (holdsAt reg n i).set (reg.getD i 0).toNat i
theorem holdsAt_length (reg : List Int) (n : Nat) : ∀ i, (holdsAt reg n i).length = n
  | 0 => by simp [holdsAt]
  | i + 1 => by simp [holdsAt, holdsAt_length reg n i]
theorem holdsAt_get {reg : List Int} {n j : Nat} (hb : 0 ≤ reg.getD j 0 ∧ reg.getD j 0 < n) : ∀ {i : Nat}, j < i → (∀ j', j < j' → j' < i → 0 ≤ reg.getD j' 0 ∧ reg.getD j' 0 ≠ reg.getD j 0) → (holdsAt reg n i).getD (reg.getD j 0).toNat 0 = j
  | 0, h, _ => by omega
  | i + 1, h, hu => by
    unfold holdsAt
    rw [getD_set, holdsAt_length]
    by_cases hj : j = i
    · subst hj; rw [if_pos ⟨rfl, by omega⟩]
    · have := hu i (by omega) (by omega)
      rw [if_neg (fun h => by omega)]
      exact holdsAt_get hb (by omega) fun j' h1 h2 => hu j' h1 (by omega)
theorem held {l : List InstrV} (hs : Straight l) {s : RegSt} (h : RInv l l.length s) {i k : Nat} {y : InstrV} (hy : l[i]? = some y) (hk : (k : Int) ∈ takenL y) : k < i ∧ (holdsAt s.reg s.cnt i).getD (s.reg.getD k 0).toNat 0 = k := by
  have hi := (List.getElem?_eq_some_iff.1 hy).1
  have hki := taken_bound hs hy k hk
  refine ⟨by omega, holdsAt_get (h.mid.regB k (by omega)) (by omega) fun j' h1 h2 => ⟨(h.mid.regB j' (by omega)).1, h.unlike j' k (by omega) h1 (need_pos hy (by omega) hk)⟩⟩
theorem held_last {l : List InstrV} (hs : Straight l) {s : RegSt} (h : RInv l l.length s) : (holdsAt s.reg s.cnt l.length).getD (s.reg.getD (l.length - 1) 0).toNat 0 = (l.length - 1 : Nat) :=
  holdsAt_get (h.mid.regB _ (by have := hs.1; omega)) (by have := hs.1; omega) fun j' h1 h2 => by omega
end Go.Proofs.Ytlcikmddmcdeeaa
