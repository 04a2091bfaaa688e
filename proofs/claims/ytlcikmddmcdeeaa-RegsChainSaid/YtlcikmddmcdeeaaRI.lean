import Derived.Test.YtlcikmddmcdeeaaRG
namespace Go.Proofs.Ytlcikmddmcdeeaa
open Go.SX Go.RowKit
theorem give_any (w : World) (b c : Nat) (F : Nat → Prop) (xs : List Int) (r : Int) (hl : xs.length < 1000000) (h : FreeAt xs b F w) (hc : w.heap[c]? = some (.cells #[.iface 36 (.pointer (some ⟨b, 0, none⟩))] 39 (0, 0))) (hn : ¬ F c) :
    Calls Try.prog 14 #[.int .i64 r, .pointer (some ⟨c, 0, none⟩)] w (FreePost w b F (fun _ : List Int => .tuple #[]) (fun ys => ys) (fun ys => ys.Perm (r :: xs) ∧ (Least xs → Least ys))) := by
  
  refine calls_of tab tabOk Try.func14 rfl rfl rfl [(0, boxL b), (1, boxL c)] (fun i => if i = 0 then boxL b else boxL c) [.c (.int .i64 r), .lp 1 0 0 0] _ (restF w (fun x => F x ∨ x = c)) 2 (by simp [SV.rfs, SV.rf, boxL, add_none]) rfl (by show 2 ≤ _; decide) (abs_cap h hc hn) ?_
  (repeat' ((conv => whnf) <;> first | (show Wp _ _ _ _ _ _ _; (refine Wp.go tabOk rfl ?_)) | (show @cmpK _ _ _; (first | refine cmp_yes (by omega) ?_ | refine cmp_no (by omega) ?_ | (refine cmp_both ?_ ?_ <;> intro _))) | (show wrapK _ _ _; (refine wrap_i64 (by omega) (by omega) ?_)) | (show leK _ _ _; (refine le_of (by first | exact Nat.le_refl _ | omega) ?_)) | (show roomK _ _ _; (refine room_of (by first | omega | (dsimp only; omega)) ?_)) | (show ltK _ _ _; (refine lt_of (by omega) ?_)) | (show _ ∧ _; (refine ⟨?_, ?_⟩)) | (show keepK _ _ _ _ _; (refine keep_of (by first | exact List.Sublist.refl _ | exact List.Sublist.cons _ (List.Sublist.refl _) | exact List.Sublist.cons _ (List.Sublist.cons _ (List.Sublist.refl _)) | exact List.Sublist.cons _ (List.Sublist.cons _ (List.Sublist.cons _ (List.Sublist.refl _)))) (by first | exact (fun _ _ h => h) | exact (fun _ _ h => h.1) | exact (fun _ _ h => h.1.1)) ?_)) | (show ownK _ _ _ _ _; (refine own_keep ?_))))
  refine call_slice List.mem_cons_self Try.call15 (fun _ : List Int => .tuple #[]) (fun ys => ints ys) (fun ys => ys.Perm (r :: xs) ∧ (Least xs → Least ys)) (fun ρ w' b' F' hw hbox hb hs => ?_) (fun ys hys => ?_)
  · have e : SV.rfs ρ [.ifc 36 (.lp 0 0 0 0), .ifc 3 (.c (.int .i64 r))] = [.iface 36 (.pointer (some ⟨b', 0, none⟩)), .iface 3 (.int .i64 r)] := by simp [SV.rfs, SV.rf, hb, add_none]
    rw [e]
    exact hpush_any w' b' F' xs r hl hs
  · conv => whnf
    exact fin_of fun ρ w' hw => ⟨ys, hys, rfl, (cap_end hc hw (fun _ _ h => h) List.mem_cons_self (List.mem_cons_of_mem _ List.mem_cons_self)).1, (cap_end hc hw (fun _ _ h => h) List.mem_cons_self (List.mem_cons_of_mem _ List.mem_cons_self)).2⟩
section
variable {B : Base} {n : Nat} {H : Heap} {S : Asn} {nx i j : Nat} {K : SV → Heap → Asn → Nat → Prop} {xs : List Int} {r : Int}
theorem call_give (hi : (i, FreeE xs) ∈ H) (hj : (j, Ent.box [.ifc 36 (.lp i 0 0 0)] 39) ∈ H) (hij : j ≠ i) (hl : xs.length < 1000000) (h : ∀ ys : List Int, ys.Perm (r :: xs) ∧ (Least xs → Least ys) → ys.length = xs.length + 1 → K (.c (.tuple #[])) (setH i (FreeE ys) H) S nx) :
    callK ⟨Try.prog, B, n, tab⟩ 14 [.c (.int .i64 r), .lp j 0 0 0] H S nx K := by
  refine call_slice hi Try.call14 (fun _ : List Int => .tuple #[]) (fun ys => ints ys) (fun ys => ys.Perm (r :: xs) ∧ (Least xs → Least ys)) (fun ρ w' b' F' hw hbox hb hs => ?_) (fun ys hys => h ys hys (by rw [hys.1.length_eq, List.length_cons]))
  obtain ⟨c, h1, h2, h3⟩ := hbox j _ _ hj hij
  have e : SV.rfs ρ [.c (.int .i64 r), .lp j 0 0 0] = [.int .i64 r, .pointer (some ⟨c, 0, none⟩)] := by simp [SV.rfs, SV.rf, h1, add_none]
  rw [e]
  refine give_any w' b' c F' xs r hl hs ?_ h3
  rw [h2]; simp [SV.rfs, SV.rf, hb, add_none]
theorem inv_len_split (hi : (i, FreeE xs) ∈ H) (hl : xs.length ≤ 1000000) (h0 : xs = [] → K (.c (.int .i64 0)) (setH i (FreeE []) H) S nx) (h1 : ∀ r tl, xs = r :: tl → tl.length + 1 = xs.length → K (.c (.int .i64 ((tl.length + 1 : Nat) : Int))) (setH i (FreeE (r :: tl)) H) S nx) :
    invokeK ⟨Try.prog, B, n, tab⟩ 36 (.lp i 0 0 0) "Len" [] H S nx K := by
  refine inv_len hi hl ?_
  cases xs with
  | nil => exact h0 rfl
  | cons r tl => exact h1 r tl rfl rfl
theorem call_pop (hi : (i, FreeE (r :: xs)) ∈ H) (hl : xs.length < 1000000) (h : ∀ ys : List Int, ys.Perm xs → ys.length = xs.length → K (.c (.iface 3 (.int .i64 r))) (setH i (FreeE ys) H) S nx) :
    callK ⟨Try.prog, B, n, tab⟩ 16 [.ifc 36 (.lp i 0 0 0)] H S nx K := by
  refine call_slice hi Try.call16 (fun _ : List Int => .iface 3 (.int .i64 r)) (fun ys => ints ys) (fun ys => ys.Perm xs) (fun ρ w' b' F' hw hbox hb hs => ?_) (fun ys hys => h ys hys hys.length_eq)
  have e : SV.rfs ρ [.ifc 36 (.lp i 0 0 0)] = [.iface 36 (.pointer (some ⟨b', 0, none⟩))] := by simp [SV.rfs, SV.rf, hb, add_none]
  rw [e]
  exact hpop_any w' b' F' xs r hl hs
end
theorem wrap_dec {a : Int} {K : Int → Prop} (h1 : -1000000 ≤ a) (h2 : a ≤ 1000000) (h : K (a + -1)) : wrapK .i64 (a - 1) K := wrap_i64 (by omega) (by omega) (by rw [Int.sub_eq_add_neg]; exact h)
def zeroI : InstrV := ⟨0, 0, 0, 0, 0⟩
theorem ostore {l : List InstrV} {i n : Nat} {a1 a2 a3 a4 a5 : Int} {K : List (List Value) → Prop} (hl : l.length = i) (hi : i < n) (h : K (instrRows ((l ++ [⟨a1, a2, a3, a4, a5⟩]) ++ List.replicate (n - (i + 1)) zeroI))) :
    rowStoreK (instrRows (l ++ List.replicate (n - i) zeroI)) i 0 [.int .i64 a1, .int .i64 a2, .int .i64 a3, .int .i64 a4, .int .i64 a5] K := by
  have e : n - i = (n - (i + 1)) + 1 := by omega
  have hlen : i < (l ++ List.replicate (n - i) zeroI).length := by simp; omega
  refine rowStore_of _ (instrRows_get hlen) (by show 0 + 5 ≤ 5; omega) ?_
  have e2 : (instrRows (l ++ List.replicate (n - i) zeroI)).set i (setFrom ((l ++ List.replicate (n - i) zeroI)[i]).cells 0 [.int .i64 a1, .int .i64 a2, .int .i64 a3, .int .i64 a4, .int .i64 a5]) = instrRows ((l ++ [⟨a1, a2, a3, a4, a5⟩]) ++ List.replicate (n - (i + 1)) zeroI) := by
    have e3 : setFrom ((l ++ List.replicate (n - i) zeroI)[i]).cells 0 [.int .i64 a1, .int .i64 a2, .int .i64 a3, .int .i64 a4, .int .i64 a5] = (⟨a1, a2, a3, a4, a5⟩ : InstrV).cells := rfl
    rw [e3]
    simp only [instrRows]
    rw [← List.map_set, e, List.replicate_succ, List.set_append_right _ _ (by omega), hl, Nat.sub_self, List.set_cons_zero, List.append_assoc]
    rfl
  rw [e2]; exact h
theorem ints_set_self {l : List Int} {i : Nat} {r : Int} (hi : i < l.length) : (ints (l.set i r))[i]? = some [.int .i64 r] := by
  rw [ints_get (by simpa using hi)]; simp
def yA (reg : List Int) (x : InstrV) : Nat → Int
  | 0 => 0
  | _ + 1 => reg.getD x.a.toNat 0
def yB (reg : List Int) (x : InstrV) : Nat → Int
  | 0 => 0
  | 1 => 0
  | _ + 2 => reg.getD x.b.toNat 0
theorem out_eq (reg : List Int) (x : InstrV) (r : Int) : (⟨x.op, r, yA reg x (takenL x).length, yB reg x (takenL x).length, x.k⟩ : InstrV) = outOf reg x r := by
  unfold outOf
  rcases takenL_of x with ⟨hn, ht⟩ | ⟨hn, ht⟩ | ⟨hn, ht⟩ | ⟨hn, ht⟩ <;> rw [ht, hn] <;> simp [yA, yB]
end Go.Proofs.Ytlcikmddmcdeeaa
