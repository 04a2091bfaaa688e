import Derived.Test.YtlcikmddmcdeeaaRQ
namespace Go.Proofs.Ytlcikmddmcdeeaa
open Go.SX Go.RowKit
theorem last_fits {l : List InstrV} (_h : l.length ≤ 1000) : True := trivial
set_option maxRecDepth 20000 in
theorem refLast_any (w : World) (v : CodeV) (hv : v.ok w) (hs : Straight v.l) : Calls Try.prog 10 #[v.val] w fun e w' => ∃ u : Unit, True ∧ ∃ r, e = .returned r ∧ Ext w w' ∧ NewRows w w' r 1 3 (ints (lastL v.l)) := by
  refine calls_of tab tabOk Try.func10 rfl rfl rfl [] (fun _ => ⟨none, 0⟩) [.c (.slice v.base v.l.length v.cap)] [] (baseA w) 0 rfl rfl (by show 1 ≤ _; decide) (abs_base w) ?_
  have hpos := hs.1
  have hmax := hs.2.1
  (repeat' ((conv => whnf) <;> first | (show makeK _ _ _ _; (refine make_of v.l.length rfl rfl (by show 8 * _ ≤ _; omega) (by omega) ?_)) | (show Wp _ _ _ _ _ _ _; (refine Wp.go tabOk rfl ?_)) | (show @cmpK _ _ _; (first | refine cmp_yes (by omega) ?_ | refine cmp_no (by omega) ?_ | (refine cmp_both ?_ ?_ <;> intro _))) | (show wrapK _ _ _; (refine wrap_i64 (by omega) (by omega) ?_)) | (show leK _ _ _; (refine le_of (by first | exact Nat.le_refl _ | omega) ?_)) | (show roomK _ _ _; (refine room_of (by first | omega | (dsimp only; omega)) ?_)) | (show ltK _ _ _; (refine lt_of (by omega) ?_)) | (show _ ∧ _; (refine ⟨?_, ?_⟩)) | (show keepK _ _ _ _ _; (refine keep_of (by first | exact List.Sublist.refl _ | exact List.Sublist.cons _ (List.Sublist.refl _) | exact List.Sublist.cons _ (List.Sublist.cons _ (List.Sublist.refl _)) | exact List.Sublist.cons _ (List.Sublist.cons _ (List.Sublist.cons _ (List.Sublist.refl _)))) (by first | exact (fun _ _ h => h) | exact (fun _ _ h => h.1) | exact (fun _ _ h => h.1.1)) ?_)) | (show ownK _ _ _ _ _; (refine own_keep ?_))))
  refine Wp.loop (σ := Nat) 1 (fun i => [(0, .c (.slice v.base v.l.length v.cap)), (3, .os 0 v.l.length), (11, .c (.slice v.base v.l.length v.cap)), (12, .c (.int .i64 v.l.length)), (13, .c (.int .i64 i))]) (fun i => [(0, .rows (ints (lastAt v.l i)) 1 3)]) (fun _ => baseA w)
      (fun i => i ≤ v.l.length) (fun i => v.l.length - i) 0 [] (by decide) (fun s => ⟨rfl, rfl⟩) (Nat.zero_le _) ⟨rfl, ⟨rfl, rfl, rfl, rfl, rfl, trivial⟩, ⟨?_, trivial⟩, fun _ _ h => h⟩ ?_
  · have e : ints (lastAt v.l 0) = List.replicate v.l.length [Value.int .i64 0] := by simp [ints, lastAt]
    rw [e]; exact List.mem_cons_self
  rintro i hi
  have hll := lastAt_length v.l i
  by_cases hlt : i < v.l.length
  · obtain ⟨a, ha⟩ := hv.at hlt
    have hg := hs.2.2 i v.l[i] hlt (List.getElem?_eq_getElem hlt)
    have hgd : v.l.getD i zeroI = v.l[i] := by simp [hlt]
    generalize hx : v.l[i] = x at *
    have hrow : (instrRows v.l)[i]? = some x.cells := by rw [instrRows_get hlt, hx]
    have hvr : ∀ R w', (baseA w).holds R w' → RowsI w' (some a) 5 (instrRows v.l) := fun R w' h => ha ▸ rows_base h hv.rows
    obtain ⟨g1, g2, g3, g4, g5, g6⟩ := hg
    have hsucc : lastAt v.l (i + 1) = (takenL x).foldl (fun m k => m.set k.toNat i) ((lastAt v.l i).set i i) := by rw [← hgd]; rfl
    rw [ha]
    have e0 : (ints []).length = 0 := rfl
    have e1 : (ints [x.a]).length = 1 := rfl
    have e2 : (ints [x.a, x.b]).length = 2 := rfl
    rcases takenL_of x with ⟨hn, ht⟩ | ⟨hn, ht⟩ | ⟨hn, ht⟩ | ⟨hn, ht⟩
    · omega
    all_goals rw [ht] at hsucc
    all_goals
      (repeat' ((conv => whnf) <;> first | (show idxK _ _ _ _ _; (refine idx_of a i rfl rfl hlt ?_)) | (show roAggK _ _ _ _; (refine roAgg_row hvr _ hrow rfl ?_)) | (show callK _ 8 _ _ _ _ _; (refine call_new (f := 8) Try.call8 1 3 (fun _ : Unit => ints _) (fun _ => True) (fun ρ w' hw => refTakes_is w' x _ ht) (fun _ _ => ?_))) | (show Wp _ _ _ _ _ _ _; (refine Wp.rounds 3 ?_)) | (show idxRowK _ _ _ _ _ _; (first | refine idxRow_of i rfl hlt (by rw [ints_length, hll]; exact Nat.le_refl _) ?_ | refine idxRow_of 0 (by omega) (Nat.le_of_ble_eq_true rfl) (Nat.le_of_ble_eq_true rfl) ?_ | refine idxRow_of 1 (by omega) (Nat.le_of_ble_eq_true rfl) (Nat.le_of_ble_eq_true rfl) ?_ | refine idxRow_of x.a.toNat (by omega) (by omega) (by simp only [ints_length, List.length_set]; omega) ?_ | refine idxRow_of x.b.toNat (by omega) (by omega) (by simp only [ints_length, List.length_set]; omega) ?_)) | (show rowK _ _ _ _; (refine row_of _ _ rfl rfl ?_)) | (show rowStoreK _ _ _ _ _; (first | refine istore (j := i) (by omega) ?_ | refine istore (j := x.a.toNat) (by simp only [List.length_set]; omega) ?_ | refine istore (j := x.b.toNat) (by simp only [List.length_set]; omega) ?_)) | (show Wp _ _ _ _ _ _ _; (refine Wp.go tabOk rfl ?_)) | (show @cmpK _ _ _; (first | refine cmp_yes (by omega) ?_ | refine cmp_no (by omega) ?_ | (refine cmp_both ?_ ?_ <;> intro _))) | (show wrapK _ _ _; (refine wrap_i64 (by omega) (by omega) ?_)) | (show leK _ _ _; (refine le_of (by first | exact Nat.le_refl _ | omega) ?_)) | (show roomK _ _ _; (refine room_of (by first | omega | (dsimp only; omega)) ?_)) | (show ltK _ _ _; (refine lt_of (by omega) ?_)) | (show _ ∧ _; (refine ⟨?_, ?_⟩)) | (show keepK _ _ _ _ _; (refine keep_of (by first | exact List.Sublist.refl _ | exact List.Sublist.cons _ (List.Sublist.refl _) | exact List.Sublist.cons _ (List.Sublist.cons _ (List.Sublist.refl _)) | exact List.Sublist.cons _ (List.Sublist.cons _ (List.Sublist.cons _ (List.Sublist.refl _)))) (by first | exact (fun _ _ h => h) | exact (fun _ _ h => h.1) | exact (fun _ _ h => h.1.1)) ?_)) | (show ownK _ _ _ _ _; (refine own_keep ?_))))
    all_goals (conv => whnf)
    all_goals exact ⟨i + 1, [], hlt, by omega, rfl, ⟨rfl, rfl, rfl, rfl, rfl, trivial⟩, ⟨by rw [hsucc]; exact List.mem_cons_of_mem _ (List.mem_cons_of_mem _ List.mem_cons_self), trivial⟩, fun _ _ h => h⟩
  · obtain rfl : i = v.l.length := by omega
    (repeat' ((conv => whnf) <;> first | (show idxRowK _ _ _ _ _ _; (refine idxRow_of (v.l.length - 1) (by omega) (by omega) (by rw [ints_length, hll]; exact Nat.le_refl _) ?_)) | (show rowStoreK _ _ _ _ _; (refine istore (j := v.l.length - 1) (by omega) ?_)) | (show Wp _ _ _ _ _ _ _; (refine Wp.go tabOk rfl ?_)) | (show @cmpK _ _ _; (first | refine cmp_yes (by omega) ?_ | refine cmp_no (by omega) ?_ | (refine cmp_both ?_ ?_ <;> intro _))) | (show wrapK _ _ _; (refine wrap_i64 (by omega) (by omega) ?_)) | (show leK _ _ _; (refine le_of (by first | exact Nat.le_refl _ | omega) ?_)) | (show roomK _ _ _; (refine room_of (by first | omega | (dsimp only; omega)) ?_)) | (show ltK _ _ _; (refine lt_of (by omega) ?_)) | (show _ ∧ _; (refine ⟨?_, ?_⟩)) | (show keepK _ _ _ _ _; (refine keep_of (by first | exact List.Sublist.refl _ | exact List.Sublist.cons _ (List.Sublist.refl _) | exact List.Sublist.cons _ (List.Sublist.cons _ (List.Sublist.refl _)) | exact List.Sublist.cons _ (List.Sublist.cons _ (List.Sublist.cons _ (List.Sublist.refl _)))) (by first | exact (fun _ _ h => h) | exact (fun _ _ h => h.1) | exact (fun _ _ h => h.1.1)) ?_)) | (show ownK _ _ _ _ _; (refine own_keep ?_))))
    conv => whnf
    refine fin_of fun ρ w' hw => ⟨(), trivial, _, rfl, ext_of_abs hw (fun _ _ h => h), ?_⟩
    have hh := new_of_abs hw (fun _ _ h => h) List.mem_cons_self
    rw [ints_length, List.length_set, hll] at hh
    exact hh
end Go.Proofs.Ytlcikmddmcdeeaa
