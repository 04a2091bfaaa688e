import Derived.Test.YtdmkdogakbipbaaRows
import Derived.Test.YtdmkdogakbipbaaKLinearRows4
/- GN -/
namespace Go.Proofs.Ytdmkdogakbipbaa
open Go.SX Go.RowKit
set_option maxRecDepth 20000 in
set_option maxHeartbeats 8000000 in
theorem refForm_4 (w : World) (n : NodeV) (hn : n.ok w) (at_ : Int) (hk : n.kind = 4) :
    Calls Try.prog 67 #[.agg n.cells.toArray, .int .i64 at_] w fun e w' => e = .returned (.bool (formB n at_)) ∧ Ext w w' := by
  have hm : mayL n.kind = some [true, false, true, false, false, true, true] := by unfold mayL; rw [hk]; rfl
  obtain ⟨a, hbase⟩ := ints_base hn.shape
  have hfb : formB n at_ = formB n at_ := rfl
  conv at hfb => rhs; unfold formB
  repeat (first | rw [if_pos (by omega)] at hfb | rw [if_neg (by omega)] at hfb)
  rw [lacks_eq] at hfb
  simp only [aheadB] at hfb
  have hK4 : n.shape.xs.length = 4 → kernelI n.shape.xs = kerLoop 1 n.shape.xs := fun h => by unfold kernelI; rw [if_pos h]
  have hK0 : n.shape.xs.length ≠ 4 → kernelI n.shape.xs = 0 := fun h => by unfold kernelI; rw [if_neg h]
  refine calls_of tab tabOk Try.func67 rfl rfl rfl [] (fun _ => ⟨none, 0⟩) [.agg [.c (.int .i64 n.kind), .c (.int .i64 n.a), .c (.int .i64 n.b), .c n.shape.val, .c (.int .i64 n.lo), .c (.int .i64 n.hi), .c (.int .i64 n.size), .c n.data.val, .c n.bias.val], .c (.int .i64 at_)] [] (baseA w) 0 rfl rfl (by show 2 ≤ _; decide) (abs_base w) ?_
  (repeat' ((conv => whnf) <;> first | (show callK _ 94 _ _ _ _ _; (refine call_bools (f := 94) [true, false, true, false, false, true, true] 7 rfl Try.call94 (fun ρ w' hw => may_any w' n.kind [true, false, true, false, false, true, true] hm) (fun m am hml ham hmn => ?_))) | (show pureK _ _ _; (first | refine slice_nil_no (ti 116 rfl) rfl ham ?_)) | (show callK _ 95 _ _ _ _ _; (refine call_bools (f := 95) (hasL n) 7 rfl Try.call95 (fun ρ w' hw => has_any w' n) (fun h ah hhl hah hhn => ?_))) | (show callK _ 34 _ _ _ _ _; (refine call_pure (f := 34) Try.call34 _ (fun ρ w' hw => refEntries_any w' n.shape.base n.shape.cap n.shape.xs (holds_of_abs hw fun R h => rows_base h.1.1 hn.shape.rows)) ?_)) | (show callQ _ 34 _ _ _ _ _; (refine callQ_of (f := 34) Try.call34 _ (fun ρ w' hw => refEntries_any w' n.shape.base n.shape.cap n.shape.xs (holds_of_abs hw fun R h => rows_base h.1.1 hn.shape.rows)) ?_)) | (show idxK _ _ _ _ _; (first | refine idx_of ah 0 hah rfl (by omega) ?_ | refine idx_of am 0 ham rfl (by omega) ?_ | refine idx_of ah 1 hah rfl (by omega) ?_ | refine idx_of am 1 ham rfl (by omega) ?_ | refine idx_of ah 2 hah rfl (by omega) ?_ | refine idx_of am 2 ham rfl (by omega) ?_ | refine idx_of ah 3 hah rfl (by omega) ?_ | refine idx_of am 3 ham rfl (by omega) ?_ | refine idx_of ah 4 hah rfl (by omega) ?_ | refine idx_of am 4 ham rfl (by omega) ?_ | refine idx_of ah 5 hah rfl (by omega) ?_ | refine idx_of am 5 ham rfl (by omega) ?_ | refine idx_of ah 6 hah rfl (by omega) ?_ | refine idx_of am 6 ham rfl (by omega) ?_ | refine idx_of _ 0 (hbase (by omega)) rfl (by omega) ?_)) | (show roK _ _ _; (first | (refine ro_prop (j := 0) (n.a ≠ 0) (fun R w' h => boolsA_in hhl hah (by first | exact h.2 | exact h.1.2)) (show 0 < 7 by decide) rfl ?_ ?_ <;> intro _) | refine ro_bool (j := 0) (fun R w' h => boolsA_in hml ham (by first | exact h.1.2 | exact h.2)) (show 0 < 7 by decide) ?_ | (refine ro_prop (j := 1) (n.b ≠ 0) (fun R w' h => boolsA_in hhl hah (by first | exact h.2 | exact h.1.2)) (show 1 < 7 by decide) rfl ?_ ?_ <;> intro _) | refine ro_bool (j := 1) (fun R w' h => boolsA_in hml ham (by first | exact h.1.2 | exact h.2)) (show 1 < 7 by decide) ?_ | (refine ro_prop (j := 2) ((n.shape.xs.length : Int) > 0) (fun R w' h => boolsA_in hhl hah (by first | exact h.2 | exact h.1.2)) (show 2 < 7 by decide) rfl ?_ ?_ <;> intro _) | refine ro_bool (j := 2) (fun R w' h => boolsA_in hml ham (by first | exact h.1.2 | exact h.2)) (show 2 < 7 by decide) ?_ | (refine ro_prop (j := 3) (n.lo ≠ 0 ∨ n.hi ≠ 0) (fun R w' h => boolsA_in hhl hah (by first | exact h.2 | exact h.1.2)) (show 3 < 7 by decide) rfl ?_ ?_ <;> intro _) | refine ro_bool (j := 3) (fun R w' h => boolsA_in hml ham (by first | exact h.1.2 | exact h.2)) (show 3 < 7 by decide) ?_ | (refine ro_prop (j := 4) (n.size ≠ 0) (fun R w' h => boolsA_in hhl hah (by first | exact h.2 | exact h.1.2)) (show 4 < 7 by decide) rfl ?_ ?_ <;> intro _) | refine ro_bool (j := 4) (fun R w' h => boolsA_in hml ham (by first | exact h.1.2 | exact h.2)) (show 4 < 7 by decide) ?_ | (refine ro_prop (j := 5) ((n.data.xs.length : Int) > 0) (fun R w' h => boolsA_in hhl hah (by first | exact h.2 | exact h.1.2)) (show 5 < 7 by decide) rfl ?_ ?_ <;> intro _) | refine ro_bool (j := 5) (fun R w' h => boolsA_in hml ham (by first | exact h.1.2 | exact h.2)) (show 5 < 7 by decide) ?_ | (refine ro_prop (j := 6) ((n.bias.xs.length : Int) > 0) (fun R w' h => boolsA_in hhl hah (by first | exact h.2 | exact h.1.2)) (show 6 < 7 by decide) rfl ?_ ?_ <;> intro _) | refine ro_bool (j := 6) (fun R w' h => boolsA_in hml ham (by first | exact h.1.2 | exact h.2)) (show 6 < 7 by decide) ?_ | refine ro_int (j := 0) (fun R w' h => hn.shape.at_ (hbase (by omega)) R w' (by first | exact h.1.1 | exact h.1)) (by omega) ?_)) | (show drawK _ 17 _ _ _ _ _ _; (refine draw_quiet tabOk mixed (by kernel_rfl) ?_)) | (show drawK _ 31 _ _ _ _ _ _; (refine draw_quiet tabOk mixed (by kernel_rfl) ?_)) | (show Wp _ _ _ _ _ _ _; (refine Wp.go tabOk rfl ?_)) | (show @cmpK _ _ _; (first | refine cmp_yes (by omega) ?_ | refine cmp_no (by omega) ?_ | (refine cmp_both ?_ ?_ <;> intro _))) | (show wrapK _ _ _; (refine wrap_i64 (by omega) (by omega) ?_)) | (show leK _ _ _; (refine le_of (by first | exact Nat.le_refl _ | omega) ?_)) | (show roomK _ _ _; (refine room_of (by first | omega | (dsimp only; omega)) ?_)) | (show ltK _ _ _; (refine lt_of (by omega) ?_)) | (show _ ∧ _; (refine ⟨?_, ?_⟩)) | (show keepK _ _ _ _ _; (refine keep_of (by first | exact List.Sublist.refl _ | exact List.Sublist.cons _ (List.Sublist.refl _) | exact List.Sublist.cons _ (List.Sublist.cons _ (List.Sublist.refl _)) | exact List.Sublist.cons _ (List.Sublist.cons _ (List.Sublist.cons _ (List.Sublist.refl _)))) (by first | exact (fun _ _ h => h) | exact (fun _ _ h => h.1) | exact (fun _ _ h => h.1.1)) ?_)) | (show ownK _ _ _ _ _; (refine own_keep ?_)) | (show apK _ _; (refine ap_old ?_))))
  refine Wp.rounds 8 ?_
  (repeat' ((conv => whnf) <;> first | (show callK _ 94 _ _ _ _ _; (refine call_bools (f := 94) [true, false, true, false, false, true, true] 7 rfl Try.call94 (fun ρ w' hw => may_any w' n.kind [true, false, true, false, false, true, true] hm) (fun m am hml ham hmn => ?_))) | (show pureK _ _ _; (first | refine slice_nil_no (ti 116 rfl) rfl ham ?_)) | (show callK _ 95 _ _ _ _ _; (refine call_bools (f := 95) (hasL n) 7 rfl Try.call95 (fun ρ w' hw => has_any w' n) (fun h ah hhl hah hhn => ?_))) | (show callK _ 34 _ _ _ _ _; (refine call_pure (f := 34) Try.call34 _ (fun ρ w' hw => refEntries_any w' n.shape.base n.shape.cap n.shape.xs (holds_of_abs hw fun R h => rows_base h.1.1 hn.shape.rows)) ?_)) | (show callQ _ 34 _ _ _ _ _; (refine callQ_of (f := 34) Try.call34 _ (fun ρ w' hw => refEntries_any w' n.shape.base n.shape.cap n.shape.xs (holds_of_abs hw fun R h => rows_base h.1.1 hn.shape.rows)) ?_)) | (show idxK _ _ _ _ _; (first | refine idx_of ah 0 hah rfl (by omega) ?_ | refine idx_of am 0 ham rfl (by omega) ?_ | refine idx_of ah 1 hah rfl (by omega) ?_ | refine idx_of am 1 ham rfl (by omega) ?_ | refine idx_of ah 2 hah rfl (by omega) ?_ | refine idx_of am 2 ham rfl (by omega) ?_ | refine idx_of ah 3 hah rfl (by omega) ?_ | refine idx_of am 3 ham rfl (by omega) ?_ | refine idx_of ah 4 hah rfl (by omega) ?_ | refine idx_of am 4 ham rfl (by omega) ?_ | refine idx_of ah 5 hah rfl (by omega) ?_ | refine idx_of am 5 ham rfl (by omega) ?_ | refine idx_of ah 6 hah rfl (by omega) ?_ | refine idx_of am 6 ham rfl (by omega) ?_ | refine idx_of _ 0 (hbase (by omega)) rfl (by omega) ?_)) | (show roK _ _ _; (first | (refine ro_prop (j := 0) (n.a ≠ 0) (fun R w' h => boolsA_in hhl hah (by first | exact h.2 | exact h.1.2)) (show 0 < 7 by decide) rfl ?_ ?_ <;> intro _) | refine ro_bool (j := 0) (fun R w' h => boolsA_in hml ham (by first | exact h.1.2 | exact h.2)) (show 0 < 7 by decide) ?_ | (refine ro_prop (j := 1) (n.b ≠ 0) (fun R w' h => boolsA_in hhl hah (by first | exact h.2 | exact h.1.2)) (show 1 < 7 by decide) rfl ?_ ?_ <;> intro _) | refine ro_bool (j := 1) (fun R w' h => boolsA_in hml ham (by first | exact h.1.2 | exact h.2)) (show 1 < 7 by decide) ?_ | (refine ro_prop (j := 2) ((n.shape.xs.length : Int) > 0) (fun R w' h => boolsA_in hhl hah (by first | exact h.2 | exact h.1.2)) (show 2 < 7 by decide) rfl ?_ ?_ <;> intro _) | refine ro_bool (j := 2) (fun R w' h => boolsA_in hml ham (by first | exact h.1.2 | exact h.2)) (show 2 < 7 by decide) ?_ | (refine ro_prop (j := 3) (n.lo ≠ 0 ∨ n.hi ≠ 0) (fun R w' h => boolsA_in hhl hah (by first | exact h.2 | exact h.1.2)) (show 3 < 7 by decide) rfl ?_ ?_ <;> intro _) | refine ro_bool (j := 3) (fun R w' h => boolsA_in hml ham (by first | exact h.1.2 | exact h.2)) (show 3 < 7 by decide) ?_ | (refine ro_prop (j := 4) (n.size ≠ 0) (fun R w' h => boolsA_in hhl hah (by first | exact h.2 | exact h.1.2)) (show 4 < 7 by decide) rfl ?_ ?_ <;> intro _) | refine ro_bool (j := 4) (fun R w' h => boolsA_in hml ham (by first | exact h.1.2 | exact h.2)) (show 4 < 7 by decide) ?_ | (refine ro_prop (j := 5) ((n.data.xs.length : Int) > 0) (fun R w' h => boolsA_in hhl hah (by first | exact h.2 | exact h.1.2)) (show 5 < 7 by decide) rfl ?_ ?_ <;> intro _) | refine ro_bool (j := 5) (fun R w' h => boolsA_in hml ham (by first | exact h.1.2 | exact h.2)) (show 5 < 7 by decide) ?_ | (refine ro_prop (j := 6) ((n.bias.xs.length : Int) > 0) (fun R w' h => boolsA_in hhl hah (by first | exact h.2 | exact h.1.2)) (show 6 < 7 by decide) rfl ?_ ?_ <;> intro _) | refine ro_bool (j := 6) (fun R w' h => boolsA_in hml ham (by first | exact h.1.2 | exact h.2)) (show 6 < 7 by decide) ?_ | refine ro_int (j := 0) (fun R w' h => hn.shape.at_ (hbase (by omega)) R w' (by first | exact h.1.1 | exact h.1)) (by omega) ?_)) | (show drawK _ 17 _ _ _ _ _ _; (refine draw_quiet tabOk mixed (by kernel_rfl) ?_)) | (show drawK _ 31 _ _ _ _ _ _; (refine draw_quiet tabOk mixed (by kernel_rfl) ?_)) | (show Wp _ _ _ _ _ _ _; (refine Wp.go tabOk rfl ?_)) | (show @cmpK _ _ _; (first | refine cmp_yes (by omega) ?_ | refine cmp_no (by omega) ?_ | (refine cmp_both ?_ ?_ <;> intro _))) | (show wrapK _ _ _; (refine wrap_i64 (by omega) (by omega) ?_)) | (show leK _ _ _; (refine le_of (by first | exact Nat.le_refl _ | omega) ?_)) | (show roomK _ _ _; (refine room_of (by first | omega | (dsimp only; omega)) ?_)) | (show ltK _ _ _; (refine lt_of (by omega) ?_)) | (show _ ∧ _; (refine ⟨?_, ?_⟩)) | (show keepK _ _ _ _ _; (refine keep_of (by first | exact List.Sublist.refl _ | exact List.Sublist.cons _ (List.Sublist.refl _) | exact List.Sublist.cons _ (List.Sublist.cons _ (List.Sublist.refl _)) | exact List.Sublist.cons _ (List.Sublist.cons _ (List.Sublist.cons _ (List.Sublist.refl _)))) (by first | exact (fun _ _ h => h) | exact (fun _ _ h => h.1) | exact (fun _ _ h => h.1.1)) ?_)) | (show ownK _ _ _ _ _; (refine own_keep ?_)) | (show apK _ _; (refine ap_old ?_))))
  all_goals first
    | (refine Wp.loop (σ := Nat × Int) 1 (fun ⟨k, p⟩ => [(106, .c n.shape.val), (107, .c (.int .i64 n.shape.xs.length)), (108, .c (.int .i64 k)), (8, .c (.int .i64 p)), (2, .lp 0 0 0 0)]) (fun _ => [(0, .box [.c (.int .i64 n.kind), .c (.int .i64 n.a), .c (.int .i64 n.b), .c n.shape.val, .c (.int .i64 n.lo), .c (.int .i64 n.hi), .c (.int .i64 n.size), .c n.data.val, .c n.bias.val] 38)]) (fun _ => ((baseA w).and ((boolsA m).past w.heap.size)).and ((boolsA h).past w.heap.size))
        (fun s => s.1 ≤ 4 ∧ 1 ≤ s.2 ∧ s.2 ≤ 64 ^ s.1 ∧ kerLoop 1 n.shape.xs = kerLoop s.2 (n.shape.xs.drop s.1)) (fun s => 4 - s.1) (0, 1) [] (Nat.le_refl _) (fun s => ⟨rfl, rfl⟩) ⟨by simp, by simp, by simp, rfl⟩ ⟨rfl, ⟨rfl, rfl, rfl, rfl, rfl, trivial⟩, ⟨List.mem_cons_self, trivial⟩, fun _ _ h => h⟩ ?_
       rintro ⟨k, p⟩ ⟨hk4, h1, h64, he⟩
       simp only at hk4 h1 h64 he
       by_cases hlt : k < n.shape.xs.length
       · rw [drop_at hlt] at he
         simp only [kerLoop] at he
         have hb : 1 ≤ n.shape.xs[k] → n.shape.xs[k] ≤ 64 → 1 ≤ p * n.shape.xs[k] ∧ p * n.shape.xs[k] ≤ 64 ^ (k + 1) ∧ p * n.shape.xs[k] ≤ 16777216 := fun g1 g2 => by
           have g3 : p * n.shape.xs[k] ≤ 64 ^ k * 64 := Int.mul_le_mul h64 g2 (by omega) (by omega)
           have g4 : p * 1 ≤ p * n.shape.xs[k] := Int.mul_le_mul_of_nonneg_left g1 (by omega)
           have g5 : (64 : Int) ^ k * 64 = 64 ^ (k + 1) := (Int.pow_succ 64 k).symm
           have g6 : (64 : Int) ^ (k + 1) ≤ 16777216 := by
             have : k = 0 ∨ k = 1 ∨ k = 2 ∨ k = 3 := by omega
             rcases this with rfl | rfl | rfl | rfl <;> decide
           omega
         have hbad : (n.shape.xs[k] < 1 ∨ n.shape.xs[k] > 64) → kernelI n.shape.xs = 0 := fun g => by rw [hK4 (by omega), he, if_pos g]
         (repeat' ((conv => whnf) <;> first | refine idx_of a k (hbase (by omega)) rfl hlt ?_ | (show roK _ _ _; (refine ro_row0 (fun R w' h => hn.shape.at_ (hbase (by omega)) R w' h.1.1) _ _ (ints_get hlt) rfl ?_)) | refine wrap_i64 (by have := hb (by omega) (by omega); omega) (by have := hb (by omega) (by omega); omega) ?_ | (show drawK _ 17 _ _ _ _ _ _; (refine draw_quiet tabOk mixed (by kernel_rfl) ?_)) | (show drawK _ 31 _ _ _ _ _ _; (refine draw_quiet tabOk mixed (by kernel_rfl) ?_)) | (show Wp _ _ _ _ _ _ _; (refine Wp.go tabOk rfl ?_)) | (show @cmpK _ _ _; (first | refine cmp_yes (by omega) ?_ | refine cmp_no (by omega) ?_ | (refine cmp_both ?_ ?_ <;> intro _))) | (show wrapK _ _ _; (refine wrap_i64 (by omega) (by omega) ?_)) | (show leK _ _ _; (refine le_of (by first | exact Nat.le_refl _ | omega) ?_)) | (show roomK _ _ _; (refine room_of (by first | omega | (dsimp only; omega)) ?_)) | (show ltK _ _ _; (refine lt_of (by omega) ?_)) | (show _ ∧ _; (refine ⟨?_, ?_⟩)) | (show keepK _ _ _ _ _; (refine keep_of (by first | exact List.Sublist.refl _ | exact List.Sublist.cons _ (List.Sublist.refl _) | exact List.Sublist.cons _ (List.Sublist.cons _ (List.Sublist.refl _)) | exact List.Sublist.cons _ (List.Sublist.cons _ (List.Sublist.cons _ (List.Sublist.refl _)))) (by first | exact (fun _ _ h => h) | exact (fun _ _ h => h.1) | exact (fun _ _ h => h.1.1)) ?_)) | (show ownK _ _ _ _ _; (refine own_keep ?_)) | (show apK _ _; (refine ap_old ?_))))
         · conv => whnf
           refine ends_bool (B := ⟨w, []⟩) (S := ((baseA w).and ((boolsA m).past w.heap.size)).and ((boolsA h).past w.heap.size)) (fun _ _ h => h.1.1) rfl ?_
           rw [hfb]
           simp only [Bool.and_eq_true, Bool.and_eq_false_iff, decide_eq_true_eq, decide_eq_false_iff_not, reduceCtorEq, and_false, and_true, or_false, false_or]
           omega
         · conv => whnf
           refine ends_bool (B := ⟨w, []⟩) (S := ((baseA w).and ((boolsA m).past w.heap.size)).and ((boolsA h).past w.heap.size)) (fun _ _ h => h.1.1) rfl ?_
           rw [hfb]
           simp only [Bool.and_eq_true, Bool.and_eq_false_iff, decide_eq_true_eq, decide_eq_false_iff_not, reduceCtorEq, and_false, and_true, or_false, false_or]
           omega
         · rw [if_neg (by omega)] at he
           have := hb (by omega) (by omega)
           exact ⟨(k + 1, p * n.shape.xs[k]), [], ⟨by simp only; omega, this.1, this.2.1, he⟩, by simp only; omega, rfl, ⟨rfl, rfl, rfl, rfl, rfl, trivial⟩, ⟨List.mem_cons_self, trivial⟩, fun _ _ h => h⟩
       · have hkl : n.shape.xs.drop k = [] := List.drop_of_length_le (by omega)
         rw [hkl] at he
         have hp : kernelI n.shape.xs = p := by rw [hK4 (by omega), he]; rfl
         (repeat' ((conv => whnf) <;> first | (show idxK _ _ _ _ _; (first | refine idx_of ah 0 hah rfl (by omega) ?_ | refine idx_of am 0 ham rfl (by omega) ?_ | refine idx_of ah 1 hah rfl (by omega) ?_ | refine idx_of am 1 ham rfl (by omega) ?_ | refine idx_of ah 2 hah rfl (by omega) ?_ | refine idx_of am 2 ham rfl (by omega) ?_ | refine idx_of ah 3 hah rfl (by omega) ?_ | refine idx_of am 3 ham rfl (by omega) ?_ | refine idx_of ah 4 hah rfl (by omega) ?_ | refine idx_of am 4 ham rfl (by omega) ?_ | refine idx_of ah 5 hah rfl (by omega) ?_ | refine idx_of am 5 ham rfl (by omega) ?_ | refine idx_of ah 6 hah rfl (by omega) ?_ | refine idx_of am 6 ham rfl (by omega) ?_ | refine idx_of _ 0 (hbase (by omega)) rfl (by omega) ?_)) | (show roK _ _ _; (refine ro_int (j := 0) (fun R w' h => hn.shape.at_ (hbase (by omega)) R w' h.1.1) (by omega) ?_)) | (show drawK _ 17 _ _ _ _ _ _; (refine draw_quiet tabOk mixed (by kernel_rfl) ?_)) | (show drawK _ 31 _ _ _ _ _ _; (refine draw_quiet tabOk mixed (by kernel_rfl) ?_)) | (show Wp _ _ _ _ _ _ _; (refine Wp.go tabOk rfl ?_)) | (show @cmpK _ _ _; (first | refine cmp_yes (by omega) ?_ | refine cmp_no (by omega) ?_ | (refine cmp_both ?_ ?_ <;> intro _))) | (show wrapK _ _ _; (refine wrap_i64 (by omega) (by omega) ?_)) | (show leK _ _ _; (refine le_of (by first | exact Nat.le_refl _ | omega) ?_)) | (show roomK _ _ _; (refine room_of (by first | omega | (dsimp only; omega)) ?_)) | (show ltK _ _ _; (refine lt_of (by omega) ?_)) | (show _ ∧ _; (refine ⟨?_, ?_⟩)) | (show keepK _ _ _ _ _; (refine keep_of (by first | exact List.Sublist.refl _ | exact List.Sublist.cons _ (List.Sublist.refl _) | exact List.Sublist.cons _ (List.Sublist.cons _ (List.Sublist.refl _)) | exact List.Sublist.cons _ (List.Sublist.cons _ (List.Sublist.cons _ (List.Sublist.refl _)))) (by first | exact (fun _ _ h => h) | exact (fun _ _ h => h.1) | exact (fun _ _ h => h.1.1)) ?_)) | (show ownK _ _ _ _ _; (refine own_keep ?_)) | (show apK _ _; (refine ap_old ?_))))
         all_goals (conv => whnf)
         all_goals refine ends_bool (B := ⟨w, []⟩) (S := ((baseA w).and ((boolsA m).past w.heap.size)).and ((boolsA h).past w.heap.size)) (fun _ _ h => h.1.1) rfl ?_
         all_goals rw [hfb]
         all_goals simp only [Bool.and_eq_true, Bool.and_eq_false_iff, decide_eq_true_eq, decide_eq_false_iff_not, reduceCtorEq, and_false, and_true, or_false, false_or]
         all_goals omega)
    | (conv => whnf
       refine ends_bool (B := ⟨w, []⟩) (S := ((baseA w).and ((boolsA m).past w.heap.size)).and ((boolsA h).past w.heap.size)) (fun _ _ h => h.1.1) rfl ?_
       rw [hfb]
       simp only [Bool.and_eq_true, Bool.and_eq_false_iff, decide_eq_true_eq, decide_eq_false_iff_not, reduceCtorEq, and_false, and_true, or_false, false_or]
       first | omega | (simp; omega))
theorem refForm_none (w : World) (n : NodeV) (at_ : Int) (hm : mayL n.kind = none) :
    Calls Try.prog 67 #[.agg n.cells.toArray, .int .i64 at_] w fun e w' => e = .returned (.bool (formB n at_)) ∧ Ext w w' := by
  have hfb : formB n at_ = false := by
    unfold mayL at hm
    unfold formB
    have h1 : n.kind ≠ 1 := fun h => by rw [if_pos h] at hm; cases hm
    rw [if_neg h1] at hm
    have h2 : n.kind ≠ 2 := fun h => by rw [if_pos h] at hm; cases hm
    rw [if_neg h2] at hm
    have h3 : n.kind ≠ 3 := fun h => by rw [if_pos h] at hm; cases hm
    rw [if_neg h3] at hm
    have h4 : n.kind ≠ 4 := fun h => by rw [if_pos h] at hm; cases hm
    rw [if_neg h4] at hm
    have h5 : n.kind ≠ 5 := fun h => by rw [if_pos h] at hm; cases hm
    rw [if_neg h5] at hm
    have h6 : n.kind ≠ 6 := fun h => by rw [if_pos h] at hm; cases hm
    rw [if_neg h6] at hm
    have h7 : n.kind ≠ 7 := fun h => by rw [if_pos h] at hm; cases hm
    rw [if_neg h7] at hm
    have h8 : n.kind ≠ 8 := fun h => by rw [if_pos h] at hm; cases hm
    rw [if_neg h8] at hm
    have h9 : n.kind ≠ 9 := fun h => by rw [if_pos h] at hm; cases hm
    rw [if_neg h1, if_neg h2, if_neg h3, if_neg h4, if_neg h5, if_neg h6, if_neg h7, if_neg h8, if_neg h9]
  refine calls_of tab tabOk Try.func67 rfl rfl rfl [] (fun _ => ⟨none, 0⟩) [.agg [.c (.int .i64 n.kind), .c (.int .i64 n.a), .c (.int .i64 n.b), .c n.shape.val, .c (.int .i64 n.lo), .c (.int .i64 n.hi), .c (.int .i64 n.size), .c n.data.val, .c n.bias.val], .c (.int .i64 at_)] [] (baseA w) 0 rfl rfl (by show 2 ≤ _; decide) (abs_base w) ?_
  (repeat' ((conv => whnf) <;> first | (show callK _ 94 _ _ _ _ _; (refine call_pure (f := 94) Try.call94 _ (fun ρ w' hw => may_none w' n.kind hm) ?_)) | (show pureK _ _ _; (refine slice_nil_yes (ti 116 rfl) rfl ?_)) | (show drawK _ 17 _ _ _ _ _ _; (refine draw_quiet tabOk mixed (by kernel_rfl) ?_)) | (show drawK _ 31 _ _ _ _ _ _; (refine draw_quiet tabOk mixed (by kernel_rfl) ?_)) | (show Wp _ _ _ _ _ _ _; (refine Wp.go tabOk rfl ?_)) | (show @cmpK _ _ _; (first | refine cmp_yes (by omega) ?_ | refine cmp_no (by omega) ?_ | (refine cmp_both ?_ ?_ <;> intro _))) | (show wrapK _ _ _; (refine wrap_i64 (by omega) (by omega) ?_)) | (show leK _ _ _; (refine le_of (by first | exact Nat.le_refl _ | omega) ?_)) | (show roomK _ _ _; (refine room_of (by first | omega | (dsimp only; omega)) ?_)) | (show ltK _ _ _; (refine lt_of (by omega) ?_)) | (show _ ∧ _; (refine ⟨?_, ?_⟩)) | (show keepK _ _ _ _ _; (refine keep_of (by first | exact List.Sublist.refl _ | exact List.Sublist.cons _ (List.Sublist.refl _) | exact List.Sublist.cons _ (List.Sublist.cons _ (List.Sublist.refl _)) | exact List.Sublist.cons _ (List.Sublist.cons _ (List.Sublist.cons _ (List.Sublist.refl _)))) (by first | exact (fun _ _ h => h) | exact (fun _ _ h => h.1) | exact (fun _ _ h => h.1.1)) ?_)) | (show ownK _ _ _ _ _; (refine own_keep ?_)) | (show apK _ _; (refine ap_old ?_))))
  exact ends_bool (fun _ _ h => h) rfl hfb
theorem refForm_any (w : World) (n : NodeV) (hn : n.ok w) (at_ : Int) :
    Calls Try.prog 67 #[.agg n.cells.toArray, .int .i64 at_] w fun e w' => e = .returned (.bool (formB n at_)) ∧ Ext w w' := by
  by_cases h1 : n.kind = 1
  · exact refForm_1 w n hn at_ h1
  by_cases h2 : n.kind = 2
  · exact refForm_2 w n hn at_ h2
  by_cases h3 : n.kind = 3
  · exact refForm_3 w n hn at_ h3
  by_cases h4 : n.kind = 4
  · exact refForm_4 w n hn at_ h4
  by_cases h5 : n.kind = 5
  · exact refForm_5 w n hn at_ h5
  by_cases h6 : n.kind = 6
  · exact refForm_6 w n hn at_ h6
  by_cases h7 : n.kind = 7
  · exact refForm_7 w n hn at_ h7
  by_cases h8 : n.kind = 8
  · exact refForm_8 w n hn at_ h8
  by_cases h9 : n.kind = 9
  · exact refForm_9 w n hn at_ h9
  · exact refForm_none w n at_ (by unfold mayL; simp only [h1, h2, h3, h4, h5, h6, h7, h8, h9, if_false])
end Go.Proofs.Ytdmkdogakbipbaa

/- GO -/
namespace Go.Proofs.Ytdmkdogakbipbaa
open Go.SX Go.RowKit
def RShapePost (w : World) (n : NodeV) (l : List IntsV) (r : Option (List Int)) (e : Ending) (w' : World) : Prop :=
  ∃ v : Value, e = .returned v ∧ Ext w w' ∧ (r = none → v = .slice none 0 0) ∧
    ∀ xs, r = some xs → ∃ u : IntsV, v = u.val ∧ u.xs = xs ∧ (u = n.shape ∨ u ∈ l ∨ (u.sane ∧ (intsA u).holds (fun b => w.heap.size ≤ b ∧ b < w'.heap.size) w'))
section
variable {B : Base} {H : Heap} {S : Asn} {nx : Nat} {w : World} {n : NodeV} {l : List IntsV} {r : Option (List Int)}
theorem rends_old (u : IntsV) (hb : ∀ R w', S.holds R w' → (baseA B.w0).holds R w') (hw0 : B.w0 = w) (hu : u = n.shape ∨ u ∈ l) (hr : r = some u.xs) : finK B (.c u.val) H S nx (RShapePost w n l r) := by
  subst hw0 hr
  exact fin_of fun ρ w' hw => ⟨_, rfl, ext_of_abs hw hb, (fun h => by cases h), fun xs h => ⟨u, rfl, by simpa using h, hu.elim .inl fun h => .inr (.inl h)⟩⟩
theorem rends_no (hb : ∀ R w', S.holds R w' → (baseA B.w0).holds R w') (hw0 : B.w0 = w) (hr : r = none) : finK B (.c (.slice none 0 0)) H S nx (RShapePost w n l r) := by
  subst hw0 hr
  exact fin_of fun ρ w' hw => ⟨_, rfl, ext_of_abs hw hb, fun _ => rfl, fun xs h => by cases h⟩
theorem rends_new {i m : Nat} {xs : List Int} (hb : ∀ R w', S.holds R w' → (baseA B.w0).holds R w') (hw0 : B.w0 = w) (he : (i, Ent.rows (ints xs) 1 3) ∈ H) (hm : m = xs.length) (hf : ∀ x ∈ xs, -9223372036854775808 ≤ x ∧ x ≤ 9223372036854775807) (hl : xs.length ≤ 1000000) (hr : r = some xs) :
    finK B (.os i m) H S nx (RShapePost w n l r) := by
  subst hw0 hr hm
  refine fin_of fun ρ w' hw => ?_
  have hn := new_of_abs hw hb he
  rw [ints_length] at hn
  obtain ⟨u, h1, h2, h3, h4⟩ := newInts hn hf hl
  exact ⟨_, rfl, ext_of_abs hw hb, (fun h => by cases h), fun ys h => ⟨u, h1, by rw [h2]; simpa using h, .inr (.inr ⟨h3, h4⟩)⟩⟩
end
theorem refEntries_ints (w : World) (s : IntsV) (h : s.ok w) : Calls Try.prog 34 #[s.val] w fun e w' => e = .returned (.int .i64 (entries s.xs)) ∧ Ext w w' := refEntries_any w s.base s.cap s.xs h.rows
theorem mayL_own {n : NodeV} (h : n.kind = 1 ∨ n.kind = 2) : ∃ r, mayL n.kind = some (false :: r) ∧ (false :: r).length = 7 := by
  rcases h with h | h <;> rw [h] <;> unfold mayL <;> exact ⟨_, rfl, rfl⟩
theorem mayL_ahead {n : NodeV} {at_ : Nat} (hf : Formed n at_) (h : ¬ (n.kind = 1 ∨ n.kind = 2)) : ∃ r, mayL n.kind = some (true :: r) ∧ (true :: r).length = 7 := by
  have h2 := hf.kind
  have : n.kind = 3 ∨ n.kind = 4 ∨ n.kind = 5 ∨ n.kind = 6 ∨ n.kind = 7 ∨ n.kind = 8 ∨ n.kind = 9 := by omega
  rcases this with h | h | h | h | h | h | h <;> rw [h] <;> unfold mayL <;> exact ⟨_, rfl, rfl⟩
set_option maxRecDepth 20000 in
set_option maxHeartbeats 8000000 in
theorem refShape_own (w : World) (n : NodeV) (hn : n.ok w) (sv : ShapesV) (h12 : n.kind = 1 ∨ n.kind = 2) :
    Calls Try.prog 68 #[.agg n.cells.toArray, sv.val] w (RShapePost w n sv.l (shapeO n (sv.l.map (·.xs)))) := by
  have hsp : shapeO n (sv.l.map (·.xs)) = some n.shape.xs := by unfold shapeO; rw [if_pos h12]
  obtain ⟨r, hm, hr⟩ := mayL_own h12
  refine calls_of tab tabOk Try.func68 rfl rfl rfl [] (fun _ => ⟨none, 0⟩) [.agg [.c (.int .i64 n.kind), .c (.int .i64 n.a), .c (.int .i64 n.b), .c n.shape.val, .c (.int .i64 n.lo), .c (.int .i64 n.hi), .c (.int .i64 n.size), .c n.data.val, .c n.bias.val], .c sv.val] [] (baseA w) 0 rfl rfl (by show 2 ≤ _; decide) (abs_base w) ?_
  (repeat' ((conv => whnf) <;> first | (show callK _ 94 _ _ _ _ _; (refine call_bools (f := 94) (false :: r) 7 hr Try.call94 (fun ρ w' hw => may_any w' n.kind _ hm) (fun m am hml ham hmn => ?_))) | (show idxK _ _ _ _ _; (refine idx_of am 0 ham rfl (by omega) ?_)) | (show roK _ _ _; (refine ro_bool (j := 0) (fun R w' h => boolsA_in hml ham h.2) (by rw [hr]; decide) ?_)) | (show drawK _ 9 _ _ _ _ _ _; (refine draw_quiet tabOk mixed (by kernel_rfl) ?_)) | (show drawK _ 13 _ _ _ _ _ _; (refine draw_quiet tabOk mixed (by kernel_rfl) ?_)) | (show drawK _ 15 _ _ _ _ _ _; (refine draw_tree tabOk mixed [] _ (.take 0 (.take 1 (.take 2 (.take 3 (.take 4 (.take 5 (.take 6 (.take 7 (.take 8 (.take 9 (.take 10 (.take 11 (.take 12 (.take 13 (.take 14 (.take 15 (.take 16 (.take 17 (.take 18 (.take 19 (.take 20 (.take 21 (.one 22 (.take 23 (.done))))))))))))))))))))))))) (by kernel_rfl) (by kernel_rfl) (by kernel_rfl) (List.Sublist.refl _) ?_)) | (show drawK _ 20 _ _ _ _ _ _; (refine draw_quiet tabOk mixed (by kernel_rfl) ?_)) | (show drawK _ 22 _ _ _ _ _ _; (refine draw_tree tabOk mixed [] _ (.take 0 (.take 1 (.take 2 (.take 3 (.take 4 (.take 5 (.take 6 (.take 7 (.take 8 (.take 9 (.take 10 (.take 11 (.take 12 (.take 13 (.take 14 (.one 15 (.take 16 (.done)))))))))))))))))) (by kernel_rfl) (by kernel_rfl) (by kernel_rfl) (List.Sublist.refl _) ?_)) | (show Wp _ _ _ _ _ _ _; (refine Wp.go tabOk rfl ?_)) | (show @cmpK _ _ _; (first | refine cmp_yes (by omega) ?_ | refine cmp_no (by omega) ?_ | (refine cmp_both ?_ ?_ <;> intro _))) | (show wrapK _ _ _; (refine wrap_i64 (by omega) (by omega) ?_)) | (show leK _ _ _; (refine le_of (by first | exact Nat.le_refl _ | omega) ?_)) | (show roomK _ _ _; (refine room_of (by first | omega | (dsimp only; omega)) ?_)) | (show ltK _ _ _; (refine lt_of (by omega) ?_)) | (show _ ∧ _; (refine ⟨?_, ?_⟩)) | (show keepK _ _ _ _ _; (refine keep_of (by first | exact List.Sublist.refl _ | exact List.Sublist.cons _ (List.Sublist.refl _) | exact List.Sublist.cons _ (List.Sublist.cons _ (List.Sublist.refl _)) | exact List.Sublist.cons _ (List.Sublist.cons _ (List.Sublist.cons _ (List.Sublist.refl _)))) (by first | exact (fun _ _ h => h) | exact (fun _ _ h => h.1) | exact (fun _ _ h => h.1.1)) ?_)) | (show ownK _ _ _ _ _; (refine own_keep ?_)) | (show apK _ _; (refine ap_old ?_))))
  all_goals (conv => whnf)
  all_goals exact rends_old (B := ⟨w, []⟩) (S := (baseA w).and ((boolsA m).past w.heap.size)) n.shape (fun _ _ h => h.1) rfl (.inl rfl) hsp
set_option maxRecDepth 20000 in
set_option maxHeartbeats 8000000 in
theorem refShape_ahead (w : World) (n : NodeV) (hn : n.ok w) (sv : ShapesV) (hs : sv.ok w) (hf : Formed n sv.l.length) (hg : ∀ s ∈ sv.l, 0 < entries s.xs) (h12 : ¬ (n.kind = 1 ∨ n.kind = 2)) :
    Calls Try.prog 68 #[.agg n.cells.toArray, sv.val] w (RShapePost w n sv.l (shapeO n (sv.l.map (·.xs)))) := by
  obtain ⟨r, hm, hr⟩ := mayL_ahead hf h12
  obtain ⟨ha0, ha1⟩ := hf.a (by omega) (by omega)
  obtain ⟨i, hia⟩ := Int.eq_ofNat_of_zero_le ha0
  have hil : i < sv.l.length := by omega
  obtain ⟨s, hi⟩ : ∃ s, sv.l[i]? = some s := ⟨_, List.getElem?_eq_getElem hil⟩
  have hA : (sv.l.map (·.xs)).getD n.a.toNat [] = s.xs := by rw [hia]; simp [List.getD, hi]
  have hg := hg s (List.mem_of_getElem? hi)
  have hso := hs.each s (List.mem_of_getElem? hi)
  have hri : (shRows sv.l)[i]? = some [s.val] := by rw [shRows_get hil, (List.getElem?_eq_some_iff.1 hi).2]
  obtain ⟨b, hb⟩ : ∃ a, sv.base = some a := base_some (j := i) hs.rows (by rw [shRows_length]; exact hil)
  obtain ⟨hl1, hl3, hd⟩ := entries_dims hg
  obtain ⟨a, hsb⟩ := hso.base (by omega)
  have hd0 : 0 < s.xs.length → 1 ≤ s.xs.getD 0 0 ∧ s.xs.getD 0 0 ≤ 64 := fun h => hd _ (getD_mem h)
  have hd1 : 1 < s.xs.length → 1 ≤ s.xs.getD 1 0 ∧ s.xs.getD 1 0 ≤ 64 := fun h => hd _ (getD_mem h)
  have hd2 : 2 < s.xs.length → 1 ≤ s.xs.getD 2 0 ∧ s.xs.getD 2 0 ≤ 64 := fun h => hd _ (getD_mem h)
  have hz := hf.pool
  have hq1 : n.kind = 5 → 1 < s.xs.length → 0 ≤ s.xs.getD 1 0 / n.size ∧ s.xs.getD 1 0 / n.size ≤ 64 := fun g h => by have := hz g; exact ⟨Int.ediv_nonneg (by omega) (by omega), Int.le_trans (Int.ediv_le_self _ (by omega)) (by omega)⟩
  have hq2 : n.kind = 5 → 2 < s.xs.length → 0 ≤ s.xs.getD 2 0 / n.size ∧ s.xs.getD 2 0 / n.size ≤ 64 := fun g h => by have := hz g; exact ⟨Int.ediv_nonneg (by omega) (by omega), Int.le_trans (Int.ediv_le_self _ (by omega)) (by omega)⟩
  have hbi := hf.bias
  have hmu : n.kind = 3 → 0 ≤ (n.bias.xs.length : Int) * entries s.xs ∧ (n.bias.xs.length : Int) * entries s.xs ≤ 4096 := fun g => by
    have h1 := entries_bd s.xs
    have h2 : (n.bias.xs.length : Int) * entries s.xs ≤ 64 * 64 := Int.mul_le_mul (by have := hbi g; omega) h1.2 h1.1 (by omega)
    have h3 : 0 ≤ (n.bias.xs.length : Int) * entries s.xs := Int.mul_nonneg (by omega) h1.1
    omega
  have hkd : n.kind = 4 → n.shape.xs.length = 4 ∧ (1 ≤ n.shape.xs.getD 0 0 ∧ n.shape.xs.getD 0 0 ≤ 64) ∧ (1 ≤ n.shape.xs.getD 1 0 ∧ n.shape.xs.getD 1 0 ≤ 64) ∧ (1 ≤ n.shape.xs.getD 2 0 ∧ n.shape.xs.getD 2 0 ≤ 64) ∧ (1 ≤ n.shape.xs.getD 3 0 ∧ n.shape.xs.getD 3 0 ≤ 64) := fun g => by
    obtain ⟨hk4, hkd⟩ := kernel_dims (hf.kern g)
    exact ⟨hk4, hkd _ (getD_mem (by omega)), hkd _ (getD_mem (by omega)), hkd _ (getD_mem (by omega)), hkd _ (getD_mem (by omega))⟩
  obtain ⟨c, hc⟩ := ints_base hn.shape
  have hE := entries_bd [n.shape.xs.getD 0 0, s.xs.getD 1 0 - n.shape.xs.getD 2 0 + 1, s.xs.getD 2 0 - n.shape.xs.getD 3 0 + 1]
  by_cases h6 : n.kind = 6
  · obtain ⟨hb0, hb1⟩ := hf.b h6
    obtain ⟨j, hjb⟩ := Int.eq_ofNat_of_zero_le hb0
    have hjl : j < sv.l.length := by omega
    obtain ⟨t, hj⟩ : ∃ t, sv.l[j]? = some t := ⟨_, List.getElem?_eq_getElem hjl⟩
    have hB : (sv.l.map (·.xs)).getD n.b.toNat [] = t.xs := by rw [hjb]; simp [List.getD, hj]
    have hto := hs.each t (List.mem_of_getElem? hj)
    have hrj : (shRows sv.l)[j]? = some [t.val] := by rw [shRows_get hjl, (List.getElem?_eq_some_iff.1 hj).2]
    have hsp : shapeO n (sv.l.map (·.xs)) = if s.xs = t.xs then some s.xs else none := by
      unfold shapeO; simp only [hA, hB]; repeat (first | rw [if_pos (by omega)] | rw [if_neg (by omega)])
    refine calls_of tab tabOk Try.func68 rfl rfl rfl [] (fun _ => ⟨none, 0⟩) [.agg [.c (.int .i64 n.kind), .c (.int .i64 n.a), .c (.int .i64 n.b), .c n.shape.val, .c (.int .i64 n.lo), .c (.int .i64 n.hi), .c (.int .i64 n.size), .c n.data.val, .c n.bias.val], .c sv.val] [] (baseA w) 0 rfl rfl (by show 2 ≤ _; decide) (abs_base w) ?_
    (repeat' ((conv => whnf) <;> first | (show callK _ 94 _ _ _ _ _; (refine call_bools (f := 94) (true :: r) 7 hr Try.call94 (fun ρ w' hw => may_any w' n.kind _ hm) (fun m am hml ham hmn => ?_))) | (show idxK _ _ _ _ _; (first | refine idx_of am 0 ham rfl (by omega) ?_ | refine idx_of b i hb hia hil ?_ | refine idx_of b j hb hjb hjl ?_)) | (show roK _ _ _; (first | refine ro_bool (j := 0) (fun R w' h => boolsA_in hml ham h.2) (by rw [hr]; decide) ?_ | refine ro_row0 (fun R w' h => by rw [← hb]; exact rows_base h.1 hs.rows) _ _ hri rfl ?_ | refine ro_row0 (fun R w' h => by rw [← hb]; exact rows_base h.1 hs.rows) _ _ hrj rfl ?_)) | (show callK _ 26 _ _ _ _ _; ((refine call_bool (f := 26) Try.call26 _ (fun ρ w' hw => same_any w' s t (holds_of_abs hw fun R h => hso.later h.1) (holds_of_abs hw fun R h => hto.later h.1)) ?_ ?_ <;> intro he))) | (show drawK _ 9 _ _ _ _ _ _; (refine draw_quiet tabOk mixed (by kernel_rfl) ?_)) | (show drawK _ 13 _ _ _ _ _ _; (refine draw_quiet tabOk mixed (by kernel_rfl) ?_)) | (show drawK _ 15 _ _ _ _ _ _; (refine draw_tree tabOk mixed [] _ (.take 0 (.take 1 (.take 2 (.take 3 (.take 4 (.take 5 (.take 6 (.take 7 (.take 8 (.take 9 (.take 10 (.take 11 (.take 12 (.take 13 (.take 14 (.take 15 (.take 16 (.take 17 (.take 18 (.take 19 (.take 20 (.take 21 (.one 22 (.take 23 (.done))))))))))))))))))))))))) (by kernel_rfl) (by kernel_rfl) (by kernel_rfl) (List.Sublist.refl _) ?_)) | (show drawK _ 20 _ _ _ _ _ _; (refine draw_quiet tabOk mixed (by kernel_rfl) ?_)) | (show drawK _ 22 _ _ _ _ _ _; (refine draw_tree tabOk mixed [] _ (.take 0 (.take 1 (.take 2 (.take 3 (.take 4 (.take 5 (.take 6 (.take 7 (.take 8 (.take 9 (.take 10 (.take 11 (.take 12 (.take 13 (.take 14 (.one 15 (.take 16 (.done)))))))))))))))))) (by kernel_rfl) (by kernel_rfl) (by kernel_rfl) (List.Sublist.refl _) ?_)) | (show Wp _ _ _ _ _ _ _; (refine Wp.go tabOk rfl ?_)) | (show @cmpK _ _ _; (first | refine cmp_yes (by omega) ?_ | refine cmp_no (by omega) ?_ | (refine cmp_both ?_ ?_ <;> intro _))) | (show wrapK _ _ _; (refine wrap_i64 (by omega) (by omega) ?_)) | (show leK _ _ _; (refine le_of (by first | exact Nat.le_refl _ | omega) ?_)) | (show roomK _ _ _; (refine room_of (by first | omega | (dsimp only; omega)) ?_)) | (show ltK _ _ _; (refine lt_of (by omega) ?_)) | (show _ ∧ _; (refine ⟨?_, ?_⟩)) | (show keepK _ _ _ _ _; (refine keep_of (by first | exact List.Sublist.refl _ | exact List.Sublist.cons _ (List.Sublist.refl _) | exact List.Sublist.cons _ (List.Sublist.cons _ (List.Sublist.refl _)) | exact List.Sublist.cons _ (List.Sublist.cons _ (List.Sublist.cons _ (List.Sublist.refl _)))) (by first | exact (fun _ _ h => h) | exact (fun _ _ h => h.1) | exact (fun _ _ h => h.1.1)) ?_)) | (show ownK _ _ _ _ _; (refine own_keep ?_)) | (show apK _ _; (refine ap_old ?_))))
    all_goals (conv => whnf)
    · exact rends_old (B := ⟨w, []⟩) (S := (baseA w).and ((boolsA m).past w.heap.size)) s (fun _ _ h => h.1) rfl (.inr (List.mem_of_getElem? hi)) (hsp.trans (if_pos (of_decide_eq_true he)))
    · exact rends_no (B := ⟨w, []⟩) (S := (baseA w).and ((boolsA m).past w.heap.size)) (fun _ _ h => h.1) rfl (hsp.trans (if_neg (of_decide_eq_false he)))
  · refine calls_of tab tabOk Try.func68 rfl rfl rfl [] (fun _ => ⟨none, 0⟩) [.agg [.c (.int .i64 n.kind), .c (.int .i64 n.a), .c (.int .i64 n.b), .c n.shape.val, .c (.int .i64 n.lo), .c (.int .i64 n.hi), .c (.int .i64 n.size), .c n.data.val, .c n.bias.val], .c sv.val] [] (baseA w) 0 rfl rfl (by show 2 ≤ _; decide) (abs_base w) ?_
    (repeat' ((conv => whnf) <;> first | (show callK _ 94 _ _ _ _ _; (refine call_bools (f := 94) (true :: r) 7 hr Try.call94 (fun ρ w' hw => may_any w' n.kind _ hm) (fun m am hml ham hmn => ?_))) | (show idxK _ _ _ _ _; (first | refine idx_of am 0 ham rfl (by omega) ?_ | refine idx_of b i hb hia hil ?_)) | (show roK _ _ _; (first | refine ro_bool (j := 0) (fun R w' h => boolsA_in hml ham h.2) (by rw [hr]; decide) ?_ | refine ro_row0 (fun R w' h => by rw [← hb]; exact rows_base h.1 hs.rows) _ _ hri rfl ?_)) | (show idxK _ _ _ _ _; (refine idx_of _ 0 hsb rfl (by omega) ?_)) | (show roK _ _ _; (refine ro_int (fun R w' h => hso.at_ hsb R w' h.1) (j := 0) (by omega) ?_)) | (show idxK _ _ _ _ _; (refine idx_of _ 1 hsb rfl (by omega) ?_)) | (show roK _ _ _; (refine ro_int (fun R w' h => hso.at_ hsb R w' h.1) (j := 1) (by omega) ?_)) | (show idxK _ _ _ _ _; (refine idx_of _ 2 hsb rfl (by omega) ?_)) | (show roK _ _ _; (refine ro_int (fun R w' h => hso.at_ hsb R w' h.1) (j := 2) (by omega) ?_)) | (show idxK _ _ _ _ _; (refine idx_of _ 0 (hc (by omega)) rfl (by omega) ?_)) | (show roK _ _ _; (refine ro_int (fun R w' h => hn.shape.at_ (hc (by omega)) R w' h.1) (j := 0) (by omega) ?_)) | (show idxK _ _ _ _ _; (refine idx_of _ 1 (hc (by omega)) rfl (by omega) ?_)) | (show roK _ _ _; (refine ro_int (fun R w' h => hn.shape.at_ (hc (by omega)) R w' h.1) (j := 1) (by omega) ?_)) | (show idxK _ _ _ _ _; (refine idx_of _ 2 (hc (by omega)) rfl (by omega) ?_)) | (show roK _ _ _; (refine ro_int (fun R w' h => hn.shape.at_ (hc (by omega)) R w' h.1) (j := 2) (by omega) ?_)) | (show idxK _ _ _ _ _; (refine idx_of _ 3 (hc (by omega)) rfl (by omega) ?_)) | (show roK _ _ _; (refine ro_int (fun R w' h => hn.shape.at_ (hc (by omega)) R w' h.1) (j := 3) (by omega) ?_)) | (show callQ _ 34 _ _ _ _ _; (refine callQ_of (f := 34) Try.call34 _ (fun ρ w' hw => refEntries_ints w' s (holds_of_abs hw fun R h => hso.later h.1)) ?_)) | (show callK _ 34 [.c s.val] _ _ _ _; (refine call_pure (f := 34) Try.call34 _ (fun ρ w' hw => refEntries_ints w' s (holds_of_abs hw fun R h => hso.later h.1)) ?_)) | (show callK _ 34 [.c n.shape.val] _ _ _ _; (refine call_pure (f := 34) Try.call34 _ (fun ρ w' hw => refEntries_ints w' n.shape (holds_of_abs hw fun R h => hn.shape.later h.1)) ?_)) | (show callK _ 34 [.os 1 3] _ _ _ _; (refine call_pure (f := 34) Try.call34 _ (fun ρ w' hw => refEntries_any w' (ρ 1).base (ρ 1).cap [n.shape.xs.getD 0 0, s.xs.getD 1 0 - n.shape.xs.getD 2 0 + 1, s.xs.getD 2 0 - n.shape.xs.getD 3 0 + 1] (rows_of_abs hw List.mem_cons_self)) ?_)) | (show remK _ _ _; (refine rem_pos (by omega) (by omega) ?_)) | (show divK _ _ _ _; (refine div_pos rfl (by omega) (by omega) (by omega) ?_)) | (show drawK _ 9 _ _ _ _ _ _; (refine draw_quiet tabOk mixed (by kernel_rfl) ?_)) | (show drawK _ 13 _ _ _ _ _ _; (refine draw_quiet tabOk mixed (by kernel_rfl) ?_)) | (show drawK _ 15 _ _ _ _ _ _; (refine draw_tree tabOk mixed [] _ (.take 0 (.take 1 (.take 2 (.take 3 (.take 4 (.take 5 (.take 6 (.take 7 (.take 8 (.take 9 (.take 10 (.take 11 (.take 12 (.take 13 (.take 14 (.take 15 (.take 16 (.take 17 (.take 18 (.take 19 (.take 20 (.take 21 (.one 22 (.take 23 (.done))))))))))))))))))))))))) (by kernel_rfl) (by kernel_rfl) (by kernel_rfl) (List.Sublist.refl _) ?_)) | (show drawK _ 20 _ _ _ _ _ _; (refine draw_quiet tabOk mixed (by kernel_rfl) ?_)) | (show drawK _ 22 _ _ _ _ _ _; (refine draw_tree tabOk mixed [] _ (.take 0 (.take 1 (.take 2 (.take 3 (.take 4 (.take 5 (.take 6 (.take 7 (.take 8 (.take 9 (.take 10 (.take 11 (.take 12 (.take 13 (.take 14 (.one 15 (.take 16 (.done)))))))))))))))))) (by kernel_rfl) (by kernel_rfl) (by kernel_rfl) (List.Sublist.refl _) ?_)) | (show Wp _ _ _ _ _ _ _; (refine Wp.go tabOk rfl ?_)) | (show @cmpK _ _ _; (first | refine cmp_yes (by omega) ?_ | refine cmp_no (by omega) ?_ | (refine cmp_both ?_ ?_ <;> intro _))) | (show wrapK _ _ _; (refine wrap_i64 (by omega) (by omega) ?_)) | (show leK _ _ _; (refine le_of (by first | exact Nat.le_refl _ | omega) ?_)) | (show roomK _ _ _; (refine room_of (by first | omega | (dsimp only; omega)) ?_)) | (show ltK _ _ _; (refine lt_of (by omega) ?_)) | (show _ ∧ _; (refine ⟨?_, ?_⟩)) | (show keepK _ _ _ _ _; (refine keep_of (by first | exact List.Sublist.refl _ | exact List.Sublist.cons _ (List.Sublist.refl _) | exact List.Sublist.cons _ (List.Sublist.cons _ (List.Sublist.refl _)) | exact List.Sublist.cons _ (List.Sublist.cons _ (List.Sublist.cons _ (List.Sublist.refl _)))) (by first | exact (fun _ _ h => h) | exact (fun _ _ h => h.1) | exact (fun _ _ h => h.1.1)) ?_)) | (show ownK _ _ _ _ _; (refine own_keep ?_)) | (show apK _ _; (refine ap_old ?_))))
    all_goals (conv => whnf)
    all_goals first
      | exact rends_no (B := ⟨w, []⟩) (S := (baseA w).and ((boolsA m).past w.heap.size)) (fun _ _ h => h.1) rfl (by unfold shapeO; simp only [hA]; (repeat (first | rw [if_pos (by omega)] | rw [if_neg (by omega)])))
      | exact rends_old (B := ⟨w, []⟩) (S := (baseA w).and ((boolsA m).past w.heap.size)) s (fun _ _ h => h.1) rfl (.inr (List.mem_of_getElem? hi)) (by unfold shapeO; simp only [hA]; (repeat (first | rw [if_pos (by omega)] | rw [if_neg (by omega)])))
      | exact rends_old (B := ⟨w, []⟩) (S := (baseA w).and ((boolsA m).past w.heap.size)) n.shape (fun _ _ h => h.1) rfl (.inl rfl) (by unfold shapeO; simp only [hA]; (repeat (first | rw [if_pos (by omega)] | rw [if_neg (by omega)])))
      | exact rends_new (B := ⟨w, []⟩) (S := (baseA w).and ((boolsA m).past w.heap.size)) (xs := [(n.bias.xs.length : Int)]) (fun _ _ h => h.1) rfl List.mem_cons_self rfl (by intro x hx; simp only [List.mem_singleton] at hx; subst hx; omega) (by simp) (by unfold shapeO; simp only [hA]; (repeat (first | rw [if_pos (by omega)] | rw [if_neg (by omega)])))
      | exact rends_new (B := ⟨w, []⟩) (S := (baseA w).and ((boolsA m).past w.heap.size)) (xs := [s.xs.getD 0 0, s.xs.getD 1 0 / n.size, s.xs.getD 2 0 / n.size]) (fun _ _ h => h.1) rfl List.mem_cons_self rfl (mem3 (by omega) (by omega) (by omega)) (by simp) (by unfold shapeO; simp only [hA]; (repeat (first | rw [if_pos (by omega)] | rw [if_neg (by omega)])))
      | exact rends_new (B := ⟨w, []⟩) (S := (baseA w).and ((boolsA m).past w.heap.size)) (xs := [n.shape.xs.getD 0 0, s.xs.getD 1 0 - n.shape.xs.getD 2 0 + 1, s.xs.getD 2 0 - n.shape.xs.getD 3 0 + 1]) (fun _ _ h => h.1) rfl List.mem_cons_self rfl (mem3 (by omega) (by omega) (by omega)) (by simp) (by unfold shapeO; simp only [hA]; (repeat (first | rw [if_pos (by omega)] | rw [if_neg (by omega)])))
theorem refShape_any (w : World) (n : NodeV) (hn : n.ok w) (sv : ShapesV) (hs : sv.ok w) (hf : Formed n sv.l.length) (hg : ∀ s ∈ sv.l, 0 < entries s.xs) :
    Calls Try.prog 68 #[.agg n.cells.toArray, sv.val] w (RShapePost w n sv.l (shapeO n (sv.l.map (·.xs)))) := by
  by_cases h12 : n.kind = 1 ∨ n.kind = 2
  · exact refShape_own w n hn sv h12
  · exact refShape_ahead w n hn sv hs hf hg h12
end Go.Proofs.Ytdmkdogakbipbaa

/- GP -/
namespace Go.Proofs.Ytdmkdogakbipbaa
open Go.SX Go.RowKit
theorem call_rshape {cx : Cx} {f : FuncId} {args : List SV} {H : Heap} {S : Asn} {nx : Nat} {K : SV → Heap → Asn → Nat → Prop} {n : NodeV} {l : List IntsV} (R0 : Option (List Int)) (hf : ∀ ar w, (callFunc f ar).run cx.P w = .ok (.enter f ar) w)
    (hn : ∀ R w', S.holds R w' → n.shape.ok w') (hl : ∀ u ∈ l, ∀ R w', S.holds R w' → u.ok w') (hpos : ∀ xs, R0 = some xs → 0 < xs.length)
    (hc : ∀ ρ w', Abs cx.B ρ nx H S w' → Calls cx.P f (SV.rfs ρ args).toArray w' (RShapePost w' n l R0))
    (h0 : R0 = none → K (.c (.slice none 0 0)) H S nx)
    (h1 : ∀ (a : Addr) (cap : Nat) (xs : List Int) (S' : Asn), R0 = some xs → (∀ R w', S'.holds R w' → S.holds R w' ∧ (⟨some a, cap, xs⟩ : IntsV).ok w') → (⟨some a, cap, xs⟩ : IntsV).sane → K (.c (.slice (some a) xs.length cap)) H S' nx) : callK cx f args H S nx K := by
  rw [callK_def]
  refine ⟨hf, fun ρ w hw => (hc ρ w hw).mono ?_⟩
  rintro e w' ⟨v, rfl, he, hnone, hv⟩
  have hw' := hw.ext he
  cases hr : R0 with
  | none =>
    rw [hnone hr]
    exact ⟨.c (.slice none 0 0), ρ, H, S, nx, rfl, fun _ _ => rfl, Nat.le_refl _, SV.lt_c _, hw', h0 hr⟩
  | some xs =>
    obtain ⟨u, rfl, hu, hcase⟩ := hv xs hr
    obtain ⟨ub, uc, us⟩ := u
    simp only at hu
    subst hu
    have old : ∀ (hok : ∀ R w', S.holds R w' → (⟨ub, uc, us⟩ : IntsV).ok w'), ∃ v' ρ' H' S' nx', Ending.returned (IntsV.val ⟨ub, uc, us⟩) = .returned (v'.rf ρ') ∧ (∀ i, i < nx → ρ' i = ρ i) ∧ nx ≤ nx' ∧ v'.lt nx' ∧ Abs cx.B ρ' nx' H' S' w' ∧ K v' H' S' nx' := fun hok => by
      have h := holds_of_abs hw' fun R h => hok R w' h
      obtain ⟨a, ha⟩ := h.base (hpos us hr)
      simp only at ha
      subst ha
      exact ⟨.c (.slice (some a) us.length uc), ρ, H, S, nx, rfl, fun _ _ => rfl, Nat.le_refl _, SV.lt_c _, hw', h1 a uc us S hr (fun R w'' g => ⟨g, hok R w'' g⟩) h.sane⟩
    rcases hcase with hcase | hcase | ⟨hsane, hnew⟩
    · exact old (fun R w' h => hcase ▸ hn R w' h)
    · exact old (hl _ hcase)
    · have hg := hw.grow (D := intsA ⟨ub, uc, us⟩) he hnew
      have h : (⟨ub, uc, us⟩ : IntsV).ok w' := intsA_ok hsane hnew
      obtain ⟨a, ha⟩ := h.base (hpos us hr)
      simp only at ha
      subst ha
      exact ⟨.c (.slice (some a) us.length uc), ρ, H, _, nx, rfl, fun _ _ => rfl, Nat.le_refl _, SV.lt_c _, hg, h1 a uc us _ hr (fun R w'' g => ⟨g.1, intsA_ok hsane ((intsA _).mono g.2 (fun b hb => hb.1))⟩) hsane⟩
theorem near_own {B : Base} {ρ : Nat → SX.Loc} {nx : Nat} {H : Heap} {S : Asn} {w : World} {i m : Nat} {T : TypeId} {R : List (List Value)} {xs : List Int} (hw : Abs B ρ nx H S w) (he : (i, Ent.rows R 1 T) ∈ H) (hR : R = ints xs) (hm : m = xs.length) (hf : ∀ x ∈ xs, i64 x) (hl : xs.length ≤ 1000000) :
    Calls Try.prog 69 (SV.rfs ρ [.os i m]).toArray w fun e w' => e = .returned (.bool (nearL xs)) ∧ Ext w w' := by
  obtain ⟨v, e1, rfl, hv⟩ := own_ints hw he hR hm hf hl
  rw [e1]; exact refNear_any w v hv
theorem rows_snoc2 (us : List IntsV) (l : SX.Loc) (xs : List Int) {i : Nat} {T : TypeId} {H : Heap} : (i, Ent.rows (shRows (us ++ [IntsV.mk l.base l.cap xs])) 1 T) ∈ (i, Ent.rows (List.take us.length (shRows us) ++ [[.slice l.base (0 + (ints xs).length) l.cap]]) 1 T) :: H := by
  have e : Value.slice l.base (0 + (ints xs).length) l.cap = IntsV.val ⟨l.base, l.cap, xs⟩ := by rw [ints_length, Nat.zero_add]; rfl
  rw [e]
  exact rows_snoc us _
set_option maxRecDepth 20000 in
set_option maxHeartbeats 8000000 in
theorem refCheck_any (w : World) (g : GraphV) (hg : g.ok w) : Calls Try.prog 38 #[g.val] w (CheckPost w (check g)) := by
  by_cases hc : g.l.length < 1 ∨ 24 < g.l.length ∨ g.out < 0 ∨ (g.l.length : Int) ≤ g.out
  · have hs : check g = (3, []) := by unfold check; rw [if_pos hc]
    rw [hs]
    refine calls_of tab tabOk Try.func38 rfl rfl rfl [] (fun _ => ⟨none, 0⟩) [.agg [.c (.slice g.base g.l.length g.cap), .c (.int .i64 g.out)]] [] (baseA w) 0 rfl rfl (by show 1 ≤ _; decide) (abs_base w) ?_
    (repeat' ((conv => whnf) <;> first | (show Wp _ _ _ _ _ _ _; (refine Wp.go tabOk rfl ?_)) | (show @cmpK _ _ _; (first | refine cmp_yes (by omega) ?_ | refine cmp_no (by omega) ?_ | (refine cmp_both ?_ ?_ <;> intro _))) | (show wrapK _ _ _; (refine wrap_i64 (by omega) (by omega) ?_)) | (show leK _ _ _; (refine le_of (by first | exact Nat.le_refl _ | omega) ?_)) | (show roomK _ _ _; (refine room_of (by first | omega | (dsimp only; omega)) ?_)) | (show ltK _ _ _; (refine lt_of (by omega) ?_)) | (show _ ∧ _; (refine ⟨?_, ?_⟩)) | (show keepK _ _ _ _ _; (refine keep_of (by first | exact List.Sublist.refl _ | exact List.Sublist.cons _ (List.Sublist.refl _) | exact List.Sublist.cons _ (List.Sublist.cons _ (List.Sublist.refl _)) | exact List.Sublist.cons _ (List.Sublist.cons _ (List.Sublist.cons _ (List.Sublist.refl _)))) (by first | exact (fun _ _ h => h) | exact (fun _ _ h => h.1) | exact (fun _ _ h => h.1.1)) ?_)) | (show ownK _ _ _ _ _; (refine own_keep ?_)) | (show apK _ _; (refine ap_old ?_))))
    all_goals exact ends_bad (fun _ _ h => h) rfl rfl (by decide)
  · have hs : check g = checkR g.l [] := by unfold check; rw [if_neg hc]
    rw [hs]
    obtain ⟨a, ha⟩ : ∃ a, g.base = some a := base_some (j := 0) hg.rows (by rw [nodeRows_length]; omega)
    refine calls_of tab tabOk Try.func38 rfl rfl rfl [] (fun _ => ⟨none, 0⟩) [.agg [.c (.slice g.base g.l.length g.cap), .c (.int .i64 g.out)]] [] (baseA w) 0 rfl rfl (by show 1 ≤ _; decide) (abs_base w) ?_
    (repeat' ((conv => whnf) <;> first | (show Wp _ _ _ _ _ _ _; (refine Wp.go tabOk rfl ?_)) | (show @cmpK _ _ _; (first | refine cmp_yes (by omega) ?_ | refine cmp_no (by omega) ?_ | (refine cmp_both ?_ ?_ <;> intro _))) | (show wrapK _ _ _; (refine wrap_i64 (by omega) (by omega) ?_)) | (show leK _ _ _; (refine le_of (by first | exact Nat.le_refl _ | omega) ?_)) | (show roomK _ _ _; (refine room_of (by first | omega | (dsimp only; omega)) ?_)) | (show ltK _ _ _; (refine lt_of (by omega) ?_)) | (show _ ∧ _; (refine ⟨?_, ?_⟩)) | (show keepK _ _ _ _ _; (refine keep_of (by first | exact List.Sublist.refl _ | exact List.Sublist.cons _ (List.Sublist.refl _) | exact List.Sublist.cons _ (List.Sublist.cons _ (List.Sublist.refl _)) | exact List.Sublist.cons _ (List.Sublist.cons _ (List.Sublist.cons _ (List.Sublist.refl _)))) (by first | exact (fun _ _ h => h) | exact (fun _ _ h => h.1) | exact (fun _ _ h => h.1.1)) ?_)) | (show ownK _ _ _ _ _; (refine own_keep ?_)) | (show apK _ _; (refine ap_old ?_))))
    refine Wp.loop (σ := Nat × List IntsV) 2 (fun ⟨k, us⟩ => [(32, .c (.slice g.base g.l.length g.cap)), (33, .c (.int .i64 g.l.length)), (34, .c (.int .i64 k)), (4, .os 1 k)]) (fun ⟨_, us⟩ => [(1, .rows (shRows us) 1 33)]) (fun ⟨_, us⟩ => (baseA w).and (eachA w.heap.size us))
      (fun ⟨k, us⟩ => k ≤ g.l.length ∧ us.length = k ∧ (∀ u ∈ us, u.sane ∧ 0 < entries u.xs) ∧ checkR g.l [] = checkR (g.l.drop k) (us.map (·.xs))) (fun s => g.l.length - s.1) (0, []) [(1, none)] (by decide) (fun s => ⟨rfl, rfl⟩) ⟨by simp, rfl, by simp, rfl⟩ ⟨rfl, ⟨rfl, rfl, rfl, rfl, trivial⟩, ⟨rfl, trivial⟩, fun R w' h => ⟨h, eachA_nil _ _ _⟩⟩ ?_
    rintro ⟨k, us⟩ ⟨hk, hul, hus, he⟩
    by_cases hlt : k < g.l.length
    · rw [drop_at hlt] at he
      have hn := hg.each _ (List.getElem_mem hlt)
      have hsm := hg.small _ (List.getElem_mem hlt)
      generalize hnk : g.l[k] = n at *
      have hrow : (nodeRows g.l)[k]? = some n.cells := by rw [nodeRows_get hlt, hnk]
      subst hul
      have hgs : ∀ s ∈ us.map (·.xs), 0 < entries s := fun s hs => by obtain ⟨u, hu, rfl⟩ := List.mem_map.1 hs; exact (hus u hu).2
      have hlm : (us.map (·.xs)).length = us.length := List.length_map _
      have fL : ∀ x ∈ [n.lo, n.hi], i64 x := by intro x hx; simp at hx; rcases hx with rfl | rfl; exact hn.loFits; exact hn.hiFits
      (repeat' ((conv => whnf) <;> first | (show idxK _ _ _ _ _; (refine idx_of a us.length ha rfl hlt ?_)) | (show roAggK _ _ _ _; (refine roAgg_row (fun R w' h => by rw [← ha]; exact rows_base h.1 hg.rows) _ hrow rfl ?_)) | (show callK _ 67 _ _ _ _ _; ((refine call_bool (f := 67) Try.call67 _ (fun ρ w' hw => refForm_any w' n (holds_of_abs hw fun R h => hn.later h.1) us.length) ?_ ?_ <;> intro hform))) | (show callK _ 68 _ _ _ _ _; (refine call_rshape (f := 68) (n := n) (l := us) (shapeO n (us.map fun x : IntsV => x.xs)) Try.call68 (fun R w' h => hn.shape.later h.1) (fun u hu R w' h => intsA_ok (hus u hu).1 ((intsA u).mono (h.2 u hu) (fun b hb => hb.1))) (fun xs hr => (entries_dims (shape_good (n := n) (sh := us.map fun x : IntsV => x.xs) (by rw [List.length_map]; exact formed_of hform) hgs hr rfl)).1) (fun ρ w' hw => refShape_any w' n (holds_of_abs hw fun R h => hn.later h.1) ⟨(ρ 1).base, (ρ 1).cap, us⟩ (shapes_abs hw (List.mem_cons_of_mem _ List.mem_cons_self) (fun R w' h => h.2) hus (by omega)) (formed_of hform) (fun s hs => (hus s hs).2)) (fun hr => ?_) (fun ua uc xs S' hr hS' hsane => ?_))) | (show callK _ 69 [.c n.data.val] _ _ _ _; ((refine call_bool (f := 69) Try.call69 _ (fun ρ w' hw => refNear_any w' n.data (holds_of_abs hw fun R h => hn.data.later (hS' _ _ h).1.1)) ?_ ?_ <;> intro hnd))) | (show callK _ 69 [.c n.bias.val] _ _ _ _; ((refine call_bool (f := 69) Try.call69 _ (fun ρ w' hw => refNear_any w' n.bias (holds_of_abs hw fun R h => hn.bias.later (hS' _ _ h).1.1)) ?_ ?_ <;> intro hnb))) | (show callK _ 69 _ _ _ _ _; ((refine call_bool (f := 69) Try.call69 _ (fun ρ w' hw => near_own hw List.mem_cons_self (xs := [n.lo, n.hi]) rfl rfl fL (by simp)) ?_ ?_ <;> intro hnl))) | (show pureK _ _ _; (first | refine slice_nil_yes (ti 33 rfl) rfl ?_ | refine slice_nil_no (ti 33 rfl) rfl rfl ?_)) | (show roRowsK _ _ _ _ _; (refine roRows_in (ints_length xs) (fun R w' h => (hS' R w' h).2.rows) ints_row ?_)) | (show ownK _ ((_, Ent.rows (_ ++ ints _) _ _) :: _) _ _ _; (refine own_freeze w.heap.size (fun R w' h b hb => ((hS' R w' h).1.1 b hb).1) (fun l hl => ?_))) | (show leK _ _ _; (refine le_of (by first | exact Nat.zero_le _ | (rw [shRows_length]; exact Nat.le_refl _)) ?_)) | (show roomK _ _ _; (refine room_of (by first | (show (us.length + 1) * 24 ≤ 140737488355328; omega) | (show (0 + (ints xs).length) * 8 ≤ 140737488355328; rw [ints_length]; have := hsane.few; simp only at this; omega)) ?_)) | (show Wp _ _ _ _ _ _ _; (refine Wp.go tabOk rfl ?_)) | (show @cmpK _ _ _; (first | refine cmp_yes (by omega) ?_ | refine cmp_no (by omega) ?_ | (refine cmp_both ?_ ?_ <;> intro _))) | (show wrapK _ _ _; (refine wrap_i64 (by omega) (by omega) ?_)) | (show leK _ _ _; (refine le_of (by first | exact Nat.le_refl _ | omega) ?_)) | (show roomK _ _ _; (refine room_of (by first | omega | (dsimp only; omega)) ?_)) | (show ltK _ _ _; (refine lt_of (by omega) ?_)) | (show _ ∧ _; (refine ⟨?_, ?_⟩)) | (show keepK _ _ _ _ _; (refine keep_of (by first | exact List.Sublist.refl _ | exact List.Sublist.cons _ (List.Sublist.refl _) | exact List.Sublist.cons _ (List.Sublist.cons _ (List.Sublist.refl _)) | exact List.Sublist.cons _ (List.Sublist.cons _ (List.Sublist.cons _ (List.Sublist.refl _)))) (by first | exact (fun _ _ h => h) | exact (fun _ _ h => h.1) | exact (fun _ _ h => h.1.1)) ?_)) | (show ownK _ _ _ _ _; (refine own_keep ?_)) | (show apK _ _; (refine ap_old ?_))))
      all_goals (conv => whnf)
      · exact ends_bad (B := ⟨w, []⟩) (fun _ _ h => h.1) rfl (he.trans (checkR_shape (by rw [hlm]; exact hform) hr)) (by decide)
      · exact ends_bad (B := ⟨w, []⟩) (fun R w' h => (hS' R w' h).1.1) rfl (he.trans (checkR_near (by rw [hlm]; exact hform) hr (by unfold nearB; rw [hnd, hnb, hnl, decide_eq_false (by omega)]; rfl))) (by decide)
      · exact ⟨(us.length + 1, us ++ [IntsV.mk l.base l.cap xs]), [(1, some 7)], ⟨hlt, by simp, each_snoc hus ⟨hsane.fits, by simpa [ints_length] using hl, hsane.few⟩ (shape_good (by rw [hlm]; exact formed_of hform) hgs hr rfl), he.trans ((checkR_next (by rw [hlm]; exact hform) hr (by unfold nearB; rw [hnd, hnb, hnl, decide_eq_true (by omega)]; rfl)).trans (by rw [List.map_append]; rfl))⟩, by simp only; omega, rfl, ⟨rfl, rfl, rfl, rfl, trivial⟩, ⟨rows_snoc2 us l xs, trivial⟩, fun R w' h => ⟨(hS' R w' h.1).1.1, eachA_snoc (hS' R w' h.1).1.2 h.2⟩⟩
      · exact ends_bad (B := ⟨w, []⟩) (fun R w' h => (hS' R w' h).1.1) rfl (he.trans (checkR_near (by rw [hlm]; exact hform) hr (by unfold nearB; rw [hnl]; simp))) (by decide)
      · exact ends_bad (B := ⟨w, []⟩) (fun R w' h => (hS' R w' h).1.1) rfl (he.trans (checkR_near (by rw [hlm]; exact hform) hr (by unfold nearB; rw [hnb]; simp))) (by decide)
      · exact ends_bad (B := ⟨w, []⟩) (fun R w' h => (hS' R w' h).1.1) rfl (he.trans (checkR_near (by rw [hlm]; exact hform) hr (by unfold nearB; rw [hnd]; simp))) (by decide)
      · exact ends_bad (B := ⟨w, []⟩) (fun _ _ h => h.1) rfl (he.trans (checkR_form (by rw [hlm]; exact hform))) (by decide)
    · rw [List.drop_of_length_le (by omega)] at he
      subst hul
      (repeat' ((conv => whnf) <;> first | (show Wp _ _ _ _ _ _ _; (refine Wp.go tabOk rfl ?_)) | (show @cmpK _ _ _; (first | refine cmp_yes (by omega) ?_ | refine cmp_no (by omega) ?_ | (refine cmp_both ?_ ?_ <;> intro _))) | (show wrapK _ _ _; (refine wrap_i64 (by omega) (by omega) ?_)) | (show leK _ _ _; (refine le_of (by first | exact Nat.le_refl _ | omega) ?_)) | (show roomK _ _ _; (refine room_of (by first | omega | (dsimp only; omega)) ?_)) | (show ltK _ _ _; (refine lt_of (by omega) ?_)) | (show _ ∧ _; (refine ⟨?_, ?_⟩)) | (show keepK _ _ _ _ _; (refine keep_of (by first | exact List.Sublist.refl _ | exact List.Sublist.cons _ (List.Sublist.refl _) | exact List.Sublist.cons _ (List.Sublist.cons _ (List.Sublist.refl _)) | exact List.Sublist.cons _ (List.Sublist.cons _ (List.Sublist.cons _ (List.Sublist.refl _)))) (by first | exact (fun _ _ h => h) | exact (fun _ _ h => h.1) | exact (fun _ _ h => h.1.1)) ?_)) | (show ownK _ _ _ _ _; (refine own_keep ?_)) | (show apK _ _; (refine ap_old ?_))))
      conv => whnf
      exact ends_good (B := ⟨w, []⟩) (fun _ _ h => h.1) (fun _ _ h => h.2) (fun u hu => (hus u hu).1) rfl List.mem_cons_self rfl he
end Go.Proofs.Ytdmkdogakbipbaa

/- GQ -/
namespace Go.Proofs.Ytdmkdogakbipbaa
open Go.SX Go.RowKit
structure IntsV.raw (w : World) (v : IntsV) : Prop where
  rows : RowsI w v.base 1 (ints v.xs)
  fits : ∀ x ∈ v.xs, -9223372036854775808 ≤ x ∧ x ≤ 9223372036854775807
  room : v.xs.length ≤ v.cap
structure NodeV.raw (w : World) (n : NodeV) : Prop where
  shape : n.shape.raw w
  data : n.data.raw w
  bias : n.bias.raw w
  kindFits : i64 n.kind
  aFits : i64 n.a
  bFits : i64 n.b
  loFits : i64 n.lo
  hiFits : i64 n.hi
  sizeFits : i64 n.size
structure GraphV.raw (w : World) (g : GraphV) : Prop where
  rows : RowsI w g.base 9 (nodeRows g.l)
  each : ∀ n ∈ g.l, n.raw w
  outFits : i64 g.out
theorem IntsV.raw.later {w w' : World} {R : Nat → Prop} {v : IntsV} (h : v.raw w) (hb : (baseA w).holds R w') : v.raw w' := ⟨rows_base hb h.rows, h.fits, h.room⟩
theorem NodeV.raw.later {w w' : World} {R : Nat → Prop} {n : NodeV} (h : n.raw w) (hb : (baseA w).holds R w') : n.raw w' :=
  ⟨h.shape.later hb, h.data.later hb, h.bias.later hb, h.kindFits, h.aFits, h.bFits, h.loFits, h.hiFits, h.sizeFits⟩
theorem GraphV.raw.later {w w' : World} {R : Nat → Prop} {g : GraphV} (h : g.raw w) (hb : (baseA w).holds R w') : g.raw w' := ⟨rows_base hb h.rows, fun n hn => (h.each n hn).later hb, h.outFits⟩
def fewN (n : NodeV) : Bool := decide (n.data.xs.length ≤ 5000 ∧ n.bias.xs.length ≤ 200 ∧ n.shape.xs.length ≤ 20)
def fewB (g : GraphV) : Bool := decide (g.l.length ≤ 40) && g.l.all fewN
theorem IntsV.raw.ok {w : World} {v : IntsV} (h : v.raw w) (hf : v.xs.length ≤ 1000000) : v.ok w := ⟨h.rows, h.fits, h.room, hf⟩
set_option maxHeartbeats 1000000 in
theorem few_any (w : World) (g : GraphV) (hg : g.raw w) : Calls Try.prog 20 #[g.val] w fun e w' => e = .returned (.bool (fewB g)) ∧ Ext w w' := by
  by_cases hc : g.l.length ≤ 40
  · have hs : fewB g = g.l.all fewN := by unfold fewB; rw [decide_eq_true hc, Bool.true_and]
    rw [hs]
    refine calls_of tab tabOk Try.func20 rfl rfl rfl [] (fun _ => ⟨none, 0⟩) [.agg [.c (.slice g.base g.l.length g.cap), .c (.int .i64 g.out)]] [] (baseA w) 0 rfl rfl (by show 1 ≤ _; decide) (abs_base w) ?_
    (repeat' ((conv => whnf) <;> first | (show Wp _ _ _ _ _ _ _; (refine Wp.go tabOk rfl ?_)) | (show @cmpK _ _ _; (first | refine cmp_yes (by omega) ?_ | refine cmp_no (by omega) ?_ | (refine cmp_both ?_ ?_ <;> intro _))) | (show wrapK _ _ _; (refine wrap_i64 (by omega) (by omega) ?_)) | (show leK _ _ _; (refine le_of (by first | exact Nat.le_refl _ | omega) ?_)) | (show roomK _ _ _; (refine room_of (by first | omega | (dsimp only; omega)) ?_)) | (show ltK _ _ _; (refine lt_of (by omega) ?_)) | (show _ ∧ _; (refine ⟨?_, ?_⟩)) | (show keepK _ _ _ _ _; (refine keep_of (by first | exact List.Sublist.refl _ | exact List.Sublist.cons _ (List.Sublist.refl _) | exact List.Sublist.cons _ (List.Sublist.cons _ (List.Sublist.refl _)) | exact List.Sublist.cons _ (List.Sublist.cons _ (List.Sublist.cons _ (List.Sublist.refl _)))) (by first | exact (fun _ _ h => h) | exact (fun _ _ h => h.1) | exact (fun _ _ h => h.1.1)) ?_)) | (show ownK _ _ _ _ _; (refine own_keep ?_)) | (show apK _ _; (refine ap_old ?_))))
    refine Wp.loop (σ := Nat) 1 (fun k => [(10, .c (.slice g.base g.l.length g.cap)), (11, .c (.int .i64 g.l.length)), (12, .c (.int .i64 k))]) (fun _ => []) (fun _ => baseA w)
      (fun k => k ≤ g.l.length ∧ g.l.all fewN = (g.l.drop k).all fewN) (fun k => g.l.length - k) 0 [] (by decide) (fun s => ⟨rfl, rfl⟩) ⟨by simp, rfl⟩ ⟨rfl, ⟨rfl, rfl, rfl, trivial⟩, trivial, fun R w' h => h⟩ ?_
    rintro k ⟨hk, he⟩
    by_cases hlt : k < g.l.length
    · obtain ⟨a, ha⟩ : ∃ a, g.base = some a := base_some (j := k) hg.rows (by rw [nodeRows_length]; omega)
      rw [drop_at hlt, List.all_cons] at he
      generalize hnk : g.l[k] = n at *
      have hrow : (nodeRows g.l)[k]? = some n.cells := by rw [nodeRows_get hlt, hnk]
      (repeat' ((conv => whnf) <;> first | (show idxK _ _ _ _ _; (refine idx_of a k ha rfl hlt ?_)) | (show roAggK _ _ _ _; (refine roAgg_row (fun R w' h => by rw [← ha]; exact rows_base h hg.rows) _ hrow rfl ?_)) | (show Wp _ _ _ _ _ _ _; (refine Wp.go tabOk rfl ?_)) | (show @cmpK _ _ _; (first | refine cmp_yes (by omega) ?_ | refine cmp_no (by omega) ?_ | (refine cmp_both ?_ ?_ <;> intro _))) | (show wrapK _ _ _; (refine wrap_i64 (by omega) (by omega) ?_)) | (show leK _ _ _; (refine le_of (by first | exact Nat.le_refl _ | omega) ?_)) | (show roomK _ _ _; (refine room_of (by first | omega | (dsimp only; omega)) ?_)) | (show ltK _ _ _; (refine lt_of (by omega) ?_)) | (show _ ∧ _; (refine ⟨?_, ?_⟩)) | (show keepK _ _ _ _ _; (refine keep_of (by first | exact List.Sublist.refl _ | exact List.Sublist.cons _ (List.Sublist.refl _) | exact List.Sublist.cons _ (List.Sublist.cons _ (List.Sublist.refl _)) | exact List.Sublist.cons _ (List.Sublist.cons _ (List.Sublist.cons _ (List.Sublist.refl _)))) (by first | exact (fun _ _ h => h) | exact (fun _ _ h => h.1) | exact (fun _ _ h => h.1.1)) ?_)) | (show ownK _ _ _ _ _; (refine own_keep ?_)) | (show apK _ _; (refine ap_old ?_))))
      all_goals first
        | exact ends_bool (fun _ _ h => h) rfl (by rw [he, show fewN n = false from decide_eq_false (by omega), Bool.false_and])
        | exact ⟨k + 1, [], ⟨hlt, by rw [he, show fewN n = true from decide_eq_true (by omega), Bool.true_and]⟩, by omega, rfl, ⟨rfl, rfl, rfl, trivial⟩, trivial, fun R w' h => h⟩
    · rw [List.drop_of_length_le (by omega)] at he
      (repeat' ((conv => whnf) <;> first | (show Wp _ _ _ _ _ _ _; (refine Wp.go tabOk rfl ?_)) | (show @cmpK _ _ _; (first | refine cmp_yes (by omega) ?_ | refine cmp_no (by omega) ?_ | (refine cmp_both ?_ ?_ <;> intro _))) | (show wrapK _ _ _; (refine wrap_i64 (by omega) (by omega) ?_)) | (show leK _ _ _; (refine le_of (by first | exact Nat.le_refl _ | omega) ?_)) | (show roomK _ _ _; (refine room_of (by first | omega | (dsimp only; omega)) ?_)) | (show ltK _ _ _; (refine lt_of (by omega) ?_)) | (show _ ∧ _; (refine ⟨?_, ?_⟩)) | (show keepK _ _ _ _ _; (refine keep_of (by first | exact List.Sublist.refl _ | exact List.Sublist.cons _ (List.Sublist.refl _) | exact List.Sublist.cons _ (List.Sublist.cons _ (List.Sublist.refl _)) | exact List.Sublist.cons _ (List.Sublist.cons _ (List.Sublist.cons _ (List.Sublist.refl _)))) (by first | exact (fun _ _ h => h) | exact (fun _ _ h => h.1) | exact (fun _ _ h => h.1.1)) ?_)) | (show ownK _ _ _ _ _; (refine own_keep ?_)) | (show apK _ _; (refine ap_old ?_))))
      exact ends_bool (fun _ _ h => h) rfl (by rw [he]; rfl)
  · have hs : fewB g = false := by unfold fewB; rw [decide_eq_false hc, Bool.false_and]
    rw [hs]
    refine calls_of tab tabOk Try.func20 rfl rfl rfl [] (fun _ => ⟨none, 0⟩) [.agg [.c (.slice g.base g.l.length g.cap), .c (.int .i64 g.out)]] [] (baseA w) 0 rfl rfl (by show 1 ≤ _; decide) (abs_base w) ?_
    (repeat' ((conv => whnf) <;> first | (show Wp _ _ _ _ _ _ _; (refine Wp.go tabOk rfl ?_)) | (show @cmpK _ _ _; (first | refine cmp_yes (by omega) ?_ | refine cmp_no (by omega) ?_ | (refine cmp_both ?_ ?_ <;> intro _))) | (show wrapK _ _ _; (refine wrap_i64 (by omega) (by omega) ?_)) | (show leK _ _ _; (refine le_of (by first | exact Nat.le_refl _ | omega) ?_)) | (show roomK _ _ _; (refine room_of (by first | omega | (dsimp only; omega)) ?_)) | (show ltK _ _ _; (refine lt_of (by omega) ?_)) | (show _ ∧ _; (refine ⟨?_, ?_⟩)) | (show keepK _ _ _ _ _; (refine keep_of (by first | exact List.Sublist.refl _ | exact List.Sublist.cons _ (List.Sublist.refl _) | exact List.Sublist.cons _ (List.Sublist.cons _ (List.Sublist.refl _)) | exact List.Sublist.cons _ (List.Sublist.cons _ (List.Sublist.cons _ (List.Sublist.refl _)))) (by first | exact (fun _ _ h => h) | exact (fun _ _ h => h.1) | exact (fun _ _ h => h.1.1)) ?_)) | (show ownK _ _ _ _ _; (refine own_keep ?_)) | (show apK _ _; (refine ap_old ?_))))
    exact ends_bool (fun _ _ h => h) rfl rfl

theorem call_check2 {cx : Cx} {f : FuncId} {args : List SV} {H : Heap} {S : Asn} {nx : Nat} {K : SV → Heap → Asn → Nat → Prop} (r : Int × List (List Int)) (hf : ∀ ar w, (callFunc f ar).run cx.P w = .ok (.enter f ar) w)
    (hc : ∀ ρ w', Abs cx.B ρ nx H S w' → Calls cx.P f (SV.rfs ρ args).toArray w' (CheckPost w' r))
    (h0 : r.1 ≠ 0 → K (.c (.tuple #[.slice none 0 0, .int .i64 r.1])) H S nx)
    (h1 : r.1 = 0 → ∀ sv : ShapesV, sv.l.map (·.xs) = r.2 → (∀ u ∈ sv.l, u.sane) → sv.l.length ≤ sv.cap → K (.c (.tuple #[sv.val, .int .i64 0])) H (S.and ((shapesD sv).past cx.B.w0.heap.size)) nx) : callK cx f args H S nx K := by
  rw [callK_def]
  refine ⟨hf, fun ρ w hw => (hc ρ w hw).mono ?_⟩
  rintro e w' ⟨v, rfl, he, hbad, hgood⟩
  by_cases hr : r.1 = 0
  · obtain ⟨sv, rfl, hm, hs, hd, hcap⟩ := hgood hr
    rw [hr]
    exact ⟨.c (.tuple #[sv.val, .int .i64 0]), ρ, H, _, nx, rfl, fun _ _ => rfl, Nat.le_refl _, SV.lt_c _, hw.grow he hd, h1 hr sv hm hs hcap⟩
  · rw [hbad hr]
    exact ⟨.c (.tuple #[.slice none 0 0, .int .i64 r.1]), ρ, H, S, nx, rfl, fun _ _ => rfl, Nat.le_refl _, SV.lt_c _, hw.ext he, h0 hr⟩
theorem call_check {cx : Cx} {f : FuncId} {args : List SV} {H : Heap} {S : Asn} {nx : Nat} {K : SV → Heap → Asn → Nat → Prop} (r : Int × List (List Int)) (hf : ∀ ar w, (callFunc f ar).run cx.P w = .ok (.enter f ar) w)
    (hc : ∀ ρ w', Abs cx.B ρ nx H S w' → Calls cx.P f (SV.rfs ρ args).toArray w' (CheckPost w' r))
    (h0 : r.1 ≠ 0 → K (.c (.tuple #[.slice none 0 0, .int .i64 r.1])) H S nx)
    (h1 : r.1 = 0 → ∀ sv : ShapesV, sv.l.map (·.xs) = r.2 → (∀ u ∈ sv.l, u.sane) → K (.c (.tuple #[sv.val, .int .i64 0])) H (S.and ((shapesD sv).past cx.B.w0.heap.size)) nx) : callK cx f args H S nx K :=
  call_check2 r hf hc h0 (fun e sv hm hs _ => h1 e sv hm hs)
end Go.Proofs.Ytdmkdogakbipbaa

/- GU -/
namespace Go.Proofs.Ytdmkdogakbipbaa
open Go.SX Go.RowKit
structure BytesV where
  base : Option Addr
  cap : Nat
  bs : List Nat
def BytesV.val (v : BytesV) : Value := .slice v.base v.bs.length v.cap
end Go.Proofs.Ytdmkdogakbipbaa

/- GV -/
namespace Go.Proofs.Ytdmkdogakbipbaa
open Go.SX Go.RowKit
theorem ints_snoc (xs : List Int) (x : Int) {i : Nat} {T : TypeId} {H : Heap} : (i, Ent.rows (ints (xs ++ [x])) 1 T) ∈ (i, Ent.rows (List.take xs.length (ints xs) ++ [[.int .i64 x]]) 1 T) :: H := by
  rw [show ints (xs ++ [x]) = List.take xs.length (ints xs) ++ [[.int .i64 x]] by rw [List.take_of_length_le (by rw [ints_length]; exact Nat.le_refl _)]; simp [ints]]
  exact List.mem_cons_self
end Go.Proofs.Ytdmkdogakbipbaa

/- GW -/
namespace Go.Proofs.Ytdmkdogakbipbaa
open Go.SX Go.RowKit
def NodeV.valA (n : NodeV) : Value := .agg n.cells.toArray
/-- what a made node is -/
structure Made (n : NodeV) : Prop where
  shape : n.shape.sane
  data : n.data.sane
  bias : n.bias.sane
  shapeFew : n.shape.xs.length ≤ 4
  dataFew : n.data.xs.length ≤ 1000
  biasFew : n.bias.xs.length ≤ 200
  kindFits : i64 n.kind
  aFits : i64 n.a
  bFits : i64 n.b
  loFits : i64 n.lo
  hiFits : i64 n.hi
  sizeFits : i64 n.size
theorem z0 : i64 0 := ⟨by decide, by decide⟩
theorem z1 : i64 1 := ⟨by decide, by decide⟩
end Go.Proofs.Ytdmkdogakbipbaa

/- SL -/
namespace Go.Proofs.Ytdmkdogakbipbaa
open Go.SX Go.RowKit
structure GraphV.fit (w : World) (g : GraphV) : Prop where
  rows : RowsI w g.base 9 (nodeRows g.l)
  each : ∀ n ∈ g.l, n.ok w
  few : g.l.length ≤ 1000000
theorem GraphV.fit.later {w w' : World} {R : Nat → Prop} {g : GraphV} (h : g.fit w) (hb : (baseA w).holds R w') : g.fit w' := ⟨rows_base hb h.rows, fun n hn => (h.each n hn).later hb, h.few⟩
end Go.Proofs.Ytdmkdogakbipbaa

/- GR -/
namespace Go.Proofs.Ytdmkdogakbipbaa
open Go.SX Go.RowKit
end Go.Proofs.Ytdmkdogakbipbaa

/- GS -/
namespace Go.Proofs.Ytdmkdogakbipbaa
open Go.SX Go.ChangeShapes Go.WideShapes Go.ChangeAt Go.RowKit
theorem own : ownKnob Try.prog.godebug = none := by kernel_rfl
theorem wf_i64' {x : Int} (h : (Lit.int .i64 x).wf = true) : -9223372036854775808 ≤ x ∧ x ≤ 9223372036854775807 := by
  simp [Lit.wf, IntKind.min, IntKind.max, IntKind.signed, IntKind.bits] at h
  omega
theorem intsV_of {w : World} {v : Value} {base : Option Addr} {cap : Nat} {xs : List Int} (h : IntsQ w v base cap xs) : ∃ u : IntsV, v = u.val ∧ u.raw w := by
  obtain ⟨rfl, h1, h2, h3, h4, h5⟩ := h
  exact ⟨⟨base, cap, xs⟩, rfl, h1, fun x hx => wf_i64' (h2 x hx), h3⟩
theorem opens_intsV (w : World) : Opens Try.prog w 33 fun cs => ∃ u : IntsV, cs = [u.val] ∧ u.raw w := by
  refine Opens.mono (opens_ints (e := 3) Try.underlying33 Try.underlying3 (by kernel_rfl)) ?_
  rintro cs ⟨v, base, cap, xs, rfl, h⟩
  obtain ⟨u, rfl, hu⟩ := intsV_of h
  exact ⟨u, rfl, hu⟩

end Go.Proofs.Ytdmkdogakbipbaa

/- IA -/
namespace Go.Proofs.Ytdmkdogakbipbaa
open Go.SX Go.RowKit
def placeV (n : NodeV) (inV fnV : Value) (c : Int) : Value := .agg #[.int .i64 n.kind, .int .i64 n.a, .int .i64 n.b, n.shape.val, .int .i64 n.lo, .int .i64 n.hi, .int .i64 n.size, n.data.val, n.bias.val, inV, fnV, .int .i64 c]
theorem mul_bd {x y A B : Int} (hx : -A ≤ x ∧ x ≤ A) (hy : -B ≤ y ∧ y ≤ B) : -(A * B) ≤ x * y ∧ x * y ≤ A * B := by
  have hA : (0 : Int) ≤ A := by omega
  have hB : (0 : Int) ≤ B := by omega
  have h1 : x.natAbs ≤ A.natAbs := by omega
  have h2 : y.natAbs ≤ B.natAbs := by omega
  have h3 := Nat.mul_le_mul h1 h2
  rw [← Int.natAbs_mul, ← Int.natAbs_mul] at h3
  have h4 : 0 ≤ A * B := Int.mul_nonneg hA hB
  omega
def bd20 (x : Int) : Prop := -1048576 ≤ x ∧ x ≤ 1048576
theorem getD_bd {l : List Int} (h : ∀ x ∈ l, bd20 x) (k : Nat) : bd20 (l.getD k 0) := by
  rcases Nat.lt_or_ge k l.length with hk | hk
  · exact h _ (getD_mem hk)
  · rw [List.getD_eq_getElem?_getD, List.getElem?_eq_none hk]; exact ⟨by decide, by decide⟩
end Go.Proofs.Ytdmkdogakbipbaa

/- IB -/
namespace Go.Proofs.Ytdmkdogakbipbaa
open Go.SX Go.RowKit
abbrev Sp := Int × Int
end Go.Proofs.Ytdmkdogakbipbaa

/- IC -/
namespace Go.Proofs.Ytdmkdogakbipbaa
open Go.SX Go.RowKit
structure NodeIn (n : NodeV) (sh : List (List Int)) (s : List Int) : Prop where
  form : formB n sh.length = true
  shape : shapeO n sh = some s
  near : nearB n = true
theorem checkR_in : ∀ {l : List NodeV} {sh0 sh : List (List Int)}, checkR l sh0 = (0, sh) → ∃ q, sh = sh0 ++ q ∧ q.length = l.length ∧ ∀ i n, l[i]? = some n → ∃ s, q[i]? = some s ∧ NodeIn n (sh0 ++ q.take i) s
  | [], sh0, sh, h => by
    obtain rfl : sh0 = sh := by simpa [checkR] using h
    exact ⟨[], by simp, rfl, fun i n hn => by simp at hn⟩
  | m :: r, sh0, sh, h => by
    by_cases hf : formB m sh0.length = false
    · rw [checkR_form hf] at h; simp at h
    have hf : formB m sh0.length = true := by simpa using hf
    cases hs : shapeO m sh0 with
    | none => rw [checkR_shape hf hs] at h; simp at h
    | some s =>
      by_cases hn : nearB m = false
      · rw [checkR_near hf hs hn] at h; simp at h
      have hn : nearB m = true := by simpa using hn
      rw [checkR_next hf hs hn] at h
      obtain ⟨q, hq, hl, ha⟩ := checkR_in h
      refine ⟨s :: q, by rw [hq, List.append_assoc]; rfl, by simp [hl], fun i n hin => ?_⟩
      cases i with
      | zero =>
        simp only [List.getElem?_cons_zero, Option.some.injEq] at hin
        subst hin
        exact ⟨s, rfl, by simpa using hf, by simpa using hs, hn⟩
      | succ i =>
        simp only [List.getElem?_cons_succ] at hin
        obtain ⟨t, h1, h2⟩ := ha i n hin
        refine ⟨t, by simpa using h1, ?_⟩
        rw [List.take_succ_cons, show sh0 ++ s :: q.take i = sh0 ++ [s] ++ q.take i by simp]
        exact h2
theorem check_in {g : GraphV} (h : (check g).1 = 0) : 1 ≤ g.l.length ∧ g.l.length ≤ 24 ∧ (0 ≤ g.out ∧ g.out < g.l.length) ∧ (check g).2.length = g.l.length ∧ ∀ i n, g.l[i]? = some n → ∃ s, (check g).2[i]? = some s ∧ NodeIn n ((check g).2.take i) s := by
  unfold check at h ⊢
  split at h
  · simp at h
  rename_i hc
  rw [if_neg hc]
  obtain ⟨q, hq, hl, ha⟩ := checkR_in (l := g.l) (sh0 := []) (sh := (checkR g.l []).2) (Prod.ext h rfl)
  rw [List.nil_append] at hq
  subst hq
  exact ⟨by omega, by omega, by omega, hl, fun i n hn => ha i n hn⟩
theorem ahead_of {n : NodeV} {at_ : Nat} (h : formB n at_ = true) : (0 ≤ n.a ∧ (n.a < at_ ∨ n.a = 0)) ∧ (0 ≤ n.b ∧ (n.b < at_ ∨ n.b = 0)) ∧ (n.kind = 7 → n.data.xs.length = 1) ∧ (n.kind = 8 → n.data.xs.length = 3) ∧ (n.kind = 2 → (n.data.xs.length : Int) = entries n.shape.xs) := by
  have hfo := formed_of h
  have hkk := hfo.kind
  unfold formB at h
  have hk : n.kind = 1 ∨ n.kind = 2 ∨ n.kind = 3 ∨ n.kind = 4 ∨ n.kind = 5 ∨ n.kind = 6 ∨ n.kind = 7 ∨ n.kind = 8 ∨ n.kind = 9 := by omega
  rcases hk with hk | hk | hk | hk | hk | hk | hk | hk | hk
  all_goals repeat (first | rw [if_pos (by omega)] at h | rw [if_neg (by omega)] at h)
  all_goals simp only [lacksB, aheadB, Bool.true_or, Bool.false_or, Bool.true_and, Bool.and_true, Bool.and_eq_true, decide_eq_true_eq] at h
  all_goals exact ⟨by omega, by omega, by omega, by omega, by omega⟩
theorem near_in {n : NodeV} (h : nearB n = true) : (∀ x ∈ n.data.xs, bd20 x) ∧ (∀ x ∈ n.bias.xs, bd20 x) ∧ bd20 n.lo ∧ bd20 n.hi ∧ n.lo ≤ n.hi := by
  unfold nearB nearL at h
  simp only [Bool.and_eq_true, List.all_eq_true, decide_eq_true_eq] at h
  exact ⟨fun x hx => h.1.1.1 x hx, fun x hx => h.1.1.2 x hx, h.1.2 n.lo (by simp), h.1.2 n.hi (by simp), h.2⟩
def spRows (l : List Sp) : List (List Value) := l.map fun s => [.int .i64 s.1, .int .i64 s.2]
theorem spRows_length (l : List Sp) : (spRows l).length = l.length := by simp [spRows]
theorem spRows_get {l : List Sp} {k : Nat} (h : k < l.length) : (spRows l)[k]? = some [.int .i64 l[k].1, .int .i64 l[k].2] := by simp [spRows, h]
def gridS (n : Nat) (acc : List Sp) : List Sp := acc ++ List.replicate (n - acc.length) (0, 0)
theorem gridS_length {n : Nat} {acc : List Sp} (h : acc.length ≤ n) : (gridS n acc).length = n := by unfold gridS; simp; omega
theorem gridS_getD {n j : Nat} {acc : List Sp} (h : acc.length ≤ n) (hj : j < n) : (spRows (gridS n acc))[j]? = some [.int .i64 (acc.getD j (0, 0)).1, .int .i64 (acc.getD j (0, 0)).2] := by
  rw [spRows_get (by rw [gridS_length h]; exact hj)]
  have : (gridS n acc)[j]'(by rw [gridS_length h]; exact hj) = acc.getD j (0, 0) := by
    unfold gridS
    rw [List.getElem_append]
    split
    · rename_i hlt; rw [List.getD_eq_getElem?_getD, List.getElem?_eq_getElem hlt]; rfl
    · rename_i hlt; rw [List.getD_eq_getElem?_getD, List.getElem?_eq_none (by omega)]; simp
  rw [this]
theorem gridS_store {n i : Nat} {acc : List Sp} {x y : Int} {K : List (List Value) → Prop} (hl : acc.length = i) (hi : i < n) (h : K (spRows (gridS n (acc ++ [(x, y)])))) : rowStoreK (spRows (gridS n acc)) i 0 [.int .i64 x, .int .i64 y] K := by
  subst hl
  refine rowStore_of _ (gridS_getD (Nat.le_of_lt hi) hi) (by show 0 + 2 ≤ 2; omega) ?_
  have e : (spRows (gridS n acc)).set acc.length (setFrom [.int .i64 (acc.getD acc.length (0, 0)).1, .int .i64 (acc.getD acc.length (0, 0)).2] 0 [.int .i64 x, .int .i64 y]) = spRows (gridS n (acc ++ [(x, y)])) := by
    have e2 : setFrom [.int .i64 (acc.getD acc.length (0, 0)).1, .int .i64 (acc.getD acc.length (0, 0)).2] 0 [.int .i64 x, .int .i64 y] = [Value.int .i64 x, .int .i64 y] := rfl
    rw [e2]
    unfold gridS spRows
    obtain ⟨k, hk⟩ : ∃ k, n - acc.length = k + 1 := ⟨n - acc.length - 1, by omega⟩
    rw [hk, List.length_append, List.length_singleton, show n - (acc.length + 1) = k by omega, List.replicate_succ]
    simp only [List.map_append, List.map_cons, List.map_nil]
    rw [List.set_append_right _ _ (by simp), List.length_map, Nat.sub_self, List.set_cons_zero]
    simp
  rw [e]; exact h
end Go.Proofs.Ytdmkdogakbipbaa

/- ID -/
namespace Go.Proofs.Ytdmkdogakbipbaa
open Go.SX Go.RowKit
end Go.Proofs.Ytdmkdogakbipbaa

/- IE -/
namespace Go.Proofs.Ytdmkdogakbipbaa
open Go.SX Go.RowKit
end Go.Proofs.Ytdmkdogakbipbaa

/- IF -/
namespace Go.Proofs.Ytdmkdogakbipbaa
open Go.SX Go.RowKit
end Go.Proofs.Ytdmkdogakbipbaa

/- IG -/
namespace Go.Proofs.Ytdmkdogakbipbaa
open Go.SX Go.RowKit
def within (s : Sp) (l : List Int) : Prop := ∀ x ∈ l, s.1 ≤ x ∧ x ≤ s.2
structure InV.ok (w : World) (v : ShapesV) : Prop where
  rows : RowsI w v.base 1 (shRows v.l)
  each : ∀ u ∈ v.l, u.ok w
  room : v.l.length ≤ v.cap
  few : v.l.length ≤ 1000000
def InV.rest (v : ShapesV) (a : Addr) : ShapesV := ⟨some (if v.cap = 1 then a else a.add 1), v.cap - 1, v.l.drop 1⟩
theorem InV.later {w w' : World} {R : Nat → Prop} {v : ShapesV} (h : InV.ok w v) (hb : (baseA w).holds R w') : InV.ok w' v := ⟨rows_base hb h.rows, fun u hu => (h.each u hu).later hb, h.room, h.few⟩
end Go.Proofs.Ytdmkdogakbipbaa

/- IO -/
namespace Go.Proofs.Ytdmkdogakbipbaa
open Go.SX Go.RowKit
def termsF (n : NodeV) (inV : Value) (c : Int) : Value :=
  if n.kind = 3 then .func (.func 75) #[placeV n (.slice none 0 0) .nilFunc c] #[]
  else if n.kind = 4 then .func (.func 76) #[placeV n inV .nilFunc c] #[]
  else .func (.func 77) #[placeV n inV .nilFunc c] #[]
end Go.Proofs.Ytdmkdogakbipbaa

/- IP -/
namespace Go.Proofs.Ytdmkdogakbipbaa
open Go.SX Go.RowKit
theorem wrap_isI {z : Int} (y : Int) {K : Int → Prop} (h : z = y) (h1 : -9223372036854775808 ≤ y) (h2 : y ≤ 9223372036854775807) (hk : K y) : wrapK .i64 z K := by
  subst h; exact wrap_i64 h1 h2 hk
abbrev TermsPost (w : World) (l : List Sp) : Ending → World → Prop := fun e w' => ∃ v, e = .returned v ∧ Ext w w' ∧ NewRows w w' v 2 110 (spRows l)
theorem terms_end {B : Base} {i m : Nat} {H : Heap} {S : Asn} {nx : Nat} {w : World} {l l' : List Sp} (hl' : l' = l) (hb : ∀ R w', S.holds R w' → (baseA B.w0).holds R w') (hw0 : B.w0 = w) (he : (i, Ent.rows (spRows l') 2 110) ∈ H) (hm : m = l.length) : finK B (.os i m) H S nx (TermsPost w l) := by
  subst hw0 hm hl'
  refine fin_of fun ρ w' hw => ⟨_, rfl, ext_of_abs hw hb, ?_⟩
  have hn := new_of_abs hw hb he
  rw [spRows_length] at hn
  exact hn
def denseT (n : NodeV) (o : Nat) (size : Nat) : List Sp := (List.range size).map fun i => (n.data.xs.getD (o * size + i) 0, (i : Int))
theorem denseT_snoc (n : NodeV) (o size i : Nat) : (List.range (i + 1)).map (fun i => ((n.data.xs.getD (o * size + i) 0, (i : Int)) : Sp)) = (List.range i).map (fun i => ((n.data.xs.getD (o * size + i) 0, (i : Int)) : Sp)) ++ [(n.data.xs.getD (o * size + i) 0, (i : Int))] := by
  rw [List.range_succ, List.map_append]; rfl
set_option maxRecDepth 20000 in
theorem dense_any (w : World) (n : NodeV) (hd : n.data.ok w) (hbl : 1 ≤ n.bias.xs.length ∧ n.bias.xs.length ≤ 64) (inV fnV : Value) (c : Int) (o size : Nat) (hs : size ≤ 64) (hdl : n.data.xs.length = n.bias.xs.length * size) (ho : o < n.bias.xs.length) : Calls Try.prog 75 #[placeV n inV fnV c, .int .i64 o] w (TermsPost w (denseT n o size)) := by
  have hprod : n.bias.xs.length * size ≤ 64 * 64 := Nat.mul_le_mul hbl.2 hs
  have hdiv : (n.data.xs.length : Int) / n.bias.xs.length = size := by
    rw [hdl, Int.natCast_mul]
    exact Int.mul_ediv_cancel_left _ (by omega)
  have hos : o * size + size ≤ n.data.xs.length := by
    have := Nat.mul_le_mul_right size (show o + 1 ≤ n.bias.xs.length by omega)
    rw [Nat.succ_mul] at this
    omega
  refine calls_of tab tabOk Try.func75 rfl rfl rfl [] (fun _ => ⟨none, 0⟩) [.agg [.c (.int .i64 n.kind), .c (.int .i64 n.a), .c (.int .i64 n.b), .c n.shape.val, .c (.int .i64 n.lo), .c (.int .i64 n.hi), .c (.int .i64 n.size), .c n.data.val, .c n.bias.val, .c inV, .c fnV, .c (.int .i64 c)], .c (.int .i64 o)] [] (baseA w) 0 rfl rfl (by show 2 ≤ _; decide) (abs_base w) ?_
  (repeat' ((conv => whnf) <;> first | (show divK _ _ _ _; (refine div_pos rfl (by omega) (by omega) (by omega) ?_)) | (show Wp _ _ _ _ _ _ _; (refine Wp.go tabOk rfl ?_)) | (show @cmpK _ _ _; (first | refine cmp_yes (by omega) ?_ | refine cmp_no (by omega) ?_ | (refine cmp_both ?_ ?_ <;> intro _))) | (show wrapK _ _ _; (refine wrap_i64 (by omega) (by omega) ?_)) | (show leK _ _ _; (refine le_of (by first | exact Nat.le_refl _ | omega) ?_)) | (show roomK _ _ _; (refine room_of (by first | omega | (dsimp only; omega)) ?_)) | (show ltK _ _ _; (refine lt_of (by omega) ?_)) | (show _ ∧ _; (refine ⟨?_, ?_⟩)) | (show keepK _ _ _ _ _; (refine keep_of (by first | exact List.Sublist.refl _ | exact List.Sublist.cons _ (List.Sublist.refl _) | exact List.Sublist.cons _ (List.Sublist.cons _ (List.Sublist.refl _)) | exact List.Sublist.cons _ (List.Sublist.cons _ (List.Sublist.cons _ (List.Sublist.refl _)))) (by first | exact (fun _ _ h => h) | exact (fun _ _ h => h.1) | exact (fun _ _ h => h.1.1)) ?_)) | (show ownK _ _ _ _ _; (refine own_keep ?_)) | (show apK _ _; (refine ap_old ?_))))
  rw [hdiv]
  (repeat' ((conv => whnf) <;> first | (show makeK _ _ _ _; (refine make_of size rfl rfl (by show 16 * _ ≤ _; omega) (by omega) ?_)) | (show Wp _ _ _ _ _ _ _; (refine Wp.go tabOk rfl ?_)) | (show @cmpK _ _ _; (first | refine cmp_yes (by omega) ?_ | refine cmp_no (by omega) ?_ | (refine cmp_both ?_ ?_ <;> intro _))) | (show wrapK _ _ _; (refine wrap_i64 (by omega) (by omega) ?_)) | (show leK _ _ _; (refine le_of (by first | exact Nat.le_refl _ | omega) ?_)) | (show roomK _ _ _; (refine room_of (by first | omega | (dsimp only; omega)) ?_)) | (show ltK _ _ _; (refine lt_of (by omega) ?_)) | (show _ ∧ _; (refine ⟨?_, ?_⟩)) | (show keepK _ _ _ _ _; (refine keep_of (by first | exact List.Sublist.refl _ | exact List.Sublist.cons _ (List.Sublist.refl _) | exact List.Sublist.cons _ (List.Sublist.cons _ (List.Sublist.refl _)) | exact List.Sublist.cons _ (List.Sublist.cons _ (List.Sublist.cons _ (List.Sublist.refl _)))) (by first | exact (fun _ _ h => h) | exact (fun _ _ h => h.1) | exact (fun _ _ h => h.1.1)) ?_)) | (show ownK _ _ _ _ _; (refine own_keep ?_)) | (show apK _ _; (refine ap_old ?_))))
  refine Wp.loop (σ := Nat) 2 (fun i => [(1, .c (.int .i64 o)), (2, .lp 0 0 0 0), (5, .c (.int .i64 size)), (6, .os 1 size), (20, .c (.int .i64 size)), (21, .c (.int .i64 i))]) (fun i => [(1, .rows (spRows (gridS size ((List.range i).map fun i => ((n.data.xs.getD (o * size + i) 0, (i : Int)) : Sp)))) 2 110), (0, .box [.c (.int .i64 n.kind), .c (.int .i64 n.a), .c (.int .i64 n.b), .c n.shape.val, .c (.int .i64 n.lo), .c (.int .i64 n.hi), .c (.int .i64 n.size), .c n.data.val, .c n.bias.val, .c inV, .c fnV, .c (.int .i64 c)] 75)]) (fun _ => baseA w)
    (fun i => i ≤ size) (fun i => size - i) 0 [] (by decide) (fun s => ⟨rfl, rfl⟩) (Nat.zero_le _) ⟨rfl, ⟨rfl, rfl, rfl, rfl, rfl, rfl, trivial⟩, ⟨?_, (by repeat (first | exact List.mem_cons_self | apply List.mem_cons_of_mem)), trivial⟩, fun _ _ h => h⟩ ?_
  · have : spRows (gridS size ((List.range 0).map fun i => ((n.data.xs.getD (o * size + i) 0, (i : Int)) : Sp))) = List.replicate size [Value.int .i64 0, .int .i64 0] := by simp [spRows, gridS]
    show (1, Ent.rows (spRows (gridS size ((List.range 0).map fun i => ((n.data.xs.getD (o * size + i) 0, (i : Int)) : Sp)))) 2 110) ∈ _
    rw [this]
    exact (by repeat (first | exact List.mem_cons_self | apply List.mem_cons_of_mem))
  rintro i hi
  have hil : ((List.range i).map fun i => ((n.data.xs.getD (o * size + i) 0, (i : Int)) : Sp)).length = i := by simp
  by_cases hlt : i < size
  · have hsn := denseT_snoc n o size i
    obtain ⟨ua, hua⟩ := hd.base (by omega)
    have hur : ∀ (R : Nat → Prop) w', (baseA w).holds R w' → RowsI w' (some ua) 1 (ints n.data.xs) := fun R w' h => by rw [← hua]; exact rows_base h hd.rows
    have hm : (o : Int) * size = ((o * size : Nat) : Int) := by rw [Int.natCast_mul]
    obtain ⟨q, hq⟩ : ∃ q, o * size + i = q := ⟨_, rfl⟩
    rw [hq] at hsn
    (repeat' ((conv => whnf) <;> first | (show idxK _ _ _ _ _; (refine idx_of _ q hua rfl (by omega) ?_)) | (show roK _ _ _; (refine ro_int hur (j := q) (by omega) ?_)) | (show wrapK _ _ _; (first | refine wrap_isI ((o * size : Nat) : Int) hm (by omega) (by omega) ?_ | refine wrap_isI (q : Int) (by omega) (by omega) (by omega) ?_ | refine wrap_isI ((i + 1 : Nat) : Int) (by omega) (by omega) (by omega) ?_)) | (show idxRowK _ _ _ _ _ _; (refine idxRow_of i rfl hlt (by rw [spRows_length, gridS_length (by omega)]; exact Nat.le_refl _) ?_)) | (show rowStoreK _ _ _ _ _; (refine gridS_store hil hlt ?_)) | (show Wp _ _ _ _ _ _ _; (refine Wp.go tabOk rfl ?_)) | (show @cmpK _ _ _; (first | refine cmp_yes (by omega) ?_ | refine cmp_no (by omega) ?_ | (refine cmp_both ?_ ?_ <;> intro _))) | (show wrapK _ _ _; (refine wrap_i64 (by omega) (by omega) ?_)) | (show leK _ _ _; (refine le_of (by first | exact Nat.le_refl _ | omega) ?_)) | (show roomK _ _ _; (refine room_of (by first | omega | (dsimp only; omega)) ?_)) | (show ltK _ _ _; (refine lt_of (by omega) ?_)) | (show _ ∧ _; (refine ⟨?_, ?_⟩)) | (show keepK _ _ _ _ _; (refine keep_of (by first | exact List.Sublist.refl _ | exact List.Sublist.cons _ (List.Sublist.refl _) | exact List.Sublist.cons _ (List.Sublist.cons _ (List.Sublist.refl _)) | exact List.Sublist.cons _ (List.Sublist.cons _ (List.Sublist.cons _ (List.Sublist.refl _)))) (by first | exact (fun _ _ h => h) | exact (fun _ _ h => h.1) | exact (fun _ _ h => h.1.1)) ?_)) | (show ownK _ _ _ _ _; (refine own_keep ?_)) | (show apK _ _; (refine ap_old ?_))))
    all_goals (conv => whnf)
    all_goals exact ⟨i + 1, [], hlt, by omega, rfl, ⟨rfl, rfl, rfl, rfl, rfl, rfl, trivial⟩, ⟨by rw [hsn]; exact (by repeat (first | exact List.mem_cons_self | apply List.mem_cons_of_mem)), (by repeat (first | exact List.mem_cons_self | apply List.mem_cons_of_mem)), trivial⟩, fun _ _ h => h⟩
  · obtain rfl : i = size := by omega
    have hgr : gridS i ((List.range i).map fun k => ((n.data.xs.getD (o * i + k) 0, (k : Int)) : Sp)) = denseT n o i := by unfold gridS denseT; rw [List.length_map, List.length_range, Nat.sub_self]; simp
    (repeat' ((conv => whnf) <;> first | (show Wp _ _ _ _ _ _ _; (refine Wp.go tabOk rfl ?_)) | (show @cmpK _ _ _; (first | refine cmp_yes (by omega) ?_ | refine cmp_no (by omega) ?_ | (refine cmp_both ?_ ?_ <;> intro _))) | (show wrapK _ _ _; (refine wrap_i64 (by omega) (by omega) ?_)) | (show leK _ _ _; (refine le_of (by first | exact Nat.le_refl _ | omega) ?_)) | (show roomK _ _ _; (refine room_of (by first | omega | (dsimp only; omega)) ?_)) | (show ltK _ _ _; (refine lt_of (by omega) ?_)) | (show _ ∧ _; (refine ⟨?_, ?_⟩)) | (show keepK _ _ _ _ _; (refine keep_of (by first | exact List.Sublist.refl _ | exact List.Sublist.cons _ (List.Sublist.refl _) | exact List.Sublist.cons _ (List.Sublist.cons _ (List.Sublist.refl _)) | exact List.Sublist.cons _ (List.Sublist.cons _ (List.Sublist.cons _ (List.Sublist.refl _)))) (by first | exact (fun _ _ h => h) | exact (fun _ _ h => h.1) | exact (fun _ _ h => h.1.1)) ?_)) | (show ownK _ _ _ _ _; (refine own_keep ?_)) | (show apK _ _; (refine ap_old ?_))))
    conv => whnf
    exact terms_end hgr (fun _ _ h => h) rfl (by repeat (first | exact List.mem_cons_self | apply List.mem_cons_of_mem)) (by simp [denseT])
end Go.Proofs.Ytdmkdogakbipbaa

/- IQ -/
namespace Go.Proofs.Ytdmkdogakbipbaa
open Go.SX Go.RowKit
def convTerm (d : List Int) (k1 k2 k3 i1 i2 o : Int) (i : Nat) : Sp :=
  (d.getD (o / (i2 - k3 + 1) / (i1 - k2 + 1) * k1 * k2 * k3 + i).toNat 0, ((i : Int) / k3 / k2 * i1 + o / (i2 - k3 + 1) % (i1 - k2 + 1) + (i : Int) / k3 % k2) * i2 + o % (i2 - k3 + 1) + (i : Int) % k3)
def convT (d : List Int) (k1 k2 k3 i1 i2 o : Int) : List Sp := (List.range (k1 * k2 * k3).toNat).map (convTerm d k1 k2 k3 i1 i2 o)
structure ConvOk (n : NodeV) (t : IntsV) (k0 k1 k2 k3 i1 i2 o : Int) : Prop where
  h_shape : n.shape.xs = [k0, k1, k2, k3]
  h_inn : ∃ i0, t.xs = [i0, i1, i2]
  h_k1 : 1 ≤ k1 ∧ k1 ≤ 64
  h_k2 : 1 ≤ k2 ∧ k2 ≤ i1
  h_k3 : 1 ≤ k3 ∧ k3 ≤ i2
  h_i1 : i1 ≤ 64
  h_i2 : i2 ≤ 64
  h_data : (n.data.xs.length : Int) = k0 * k1 * k2 * k3
  h_k0 : k0 ≤ 64
  h_o : 0 ≤ o ∧ o ≤ 64
  h_k : o / (i2 - k3 + 1) / (i1 - k2 + 1) < k0
theorem sp_snoc (l : List Sp) (s : Sp) {i m : Nat} {T : TypeId} {H : Heap} (hm : m = l.length) : (i, Ent.rows (spRows (l ++ [s])) 2 T) ∈ (i, Ent.rows (List.take m (spRows l) ++ [[.int .i64 s.1, .int .i64 s.2]]) 2 T) :: H := by
  subst hm
  rw [show spRows (l ++ [s]) = List.take l.length (spRows l) ++ [[.int .i64 s.1, .int .i64 s.2]] by rw [List.take_of_length_le (by rw [spRows_length]; exact Nat.le_refl _)]; simp [spRows]]
  exact List.mem_cons_self
theorem div_bd {x y : Int} (hx : 0 ≤ x) (hy : 0 < y) : 0 ≤ x / y ∧ x / y ≤ x ∧ 0 ≤ x % y ∧ x % y < y := ⟨Int.ediv_nonneg hx (by omega), Int.ediv_le_self y hx, Int.emod_nonneg x (by omega), Int.emod_lt_of_pos x hy⟩
set_option maxRecDepth 20000 in
set_option maxHeartbeats 2000000 in
theorem conv_any (w : World) (n : NodeV) (t : IntsV) (hd : n.data.ok w) (hsh : n.shape.ok w) (ht : t.ok w) (fnV : Value) (c k0 k1 k2 k3 i1 i2 o : Int) (h : ConvOk n t k0 k1 k2 k3 i1 i2 o) : Calls Try.prog 76 #[placeV n t.val fnV c, .int .i64 o] w (TermsPost w (convT n.data.xs k1 k2 k3 i1 i2 o)) := by
  obtain ⟨hs, ⟨i0, hi⟩, b1, b2, b3, bi1, bi2, hdl, b0, bo, bk⟩ := h
  obtain ⟨us, hus⟩ := hsh.base (by rw [hs]; simp)
  obtain ⟨ut, hut⟩ := ht.base (by rw [hi]; simp)
  have hsr : ∀ (R : Nat → Prop) w', (baseA w).holds R w' → RowsI w' (some us) 1 (ints [k0, k1, k2, k3]) := fun R w' h => by rw [← hus, ← hs]; exact rows_base h hsh.rows
  have htr : ∀ (R : Nat → Prop) w', (baseA w).holds R w' → RowsI w' (some ut) 1 (ints [i0, i1, i2]) := fun R w' h => by rw [← hut, ← hi]; exact rows_base h ht.rows
  have hsl : n.shape.xs.length = 4 := by rw [hs]; rfl
  have htl : t.xs.length = 3 := by rw [hi]; rfl
  have hW : 0 < i2 - k3 + 1 := by omega
  have hH : 0 < i1 - k2 + 1 := by omega
  obtain ⟨d1, d2, d3, d4⟩ := div_bd bo.1 hW
  obtain ⟨d5, d6, d7, d8⟩ := div_bd d1 hH
  have m12 := mul_bd (x := k1) (y := k2) (A := 64) (B := 64) (by omega) (by omega)
  have m123 := mul_bd (x := k1 * k2) (y := k3) (A := 64 * 64) (B := 64) m12 (by omega)
  have n12 := Int.mul_pos (show 0 < k1 by omega) (show 0 < k2 by omega)
  have n123 := Int.mul_pos n12 (show 0 < k3 by omega)
  obtain ⟨Q, hQ⟩ : ∃ Q : Nat, k1 * k2 * k3 = Q := ⟨(k1 * k2 * k3).toNat, by omega⟩
  have hcT : convT n.data.xs k1 k2 k3 i1 i2 o = (List.range Q).map (convTerm n.data.xs k1 k2 k3 i1 i2 o) := by unfold convT; rw [hQ]; rfl
  rw [hcT]
  refine calls_of tab tabOk Try.func76 rfl rfl rfl [] (fun _ => ⟨none, 0⟩) [.agg [.c (.int .i64 n.kind), .c (.int .i64 n.a), .c (.int .i64 n.b), .c n.shape.val, .c (.int .i64 n.lo), .c (.int .i64 n.hi), .c (.int .i64 n.size), .c n.data.val, .c n.bias.val, .c t.val, .c fnV, .c (.int .i64 c)], .c (.int .i64 o)] [] (baseA w) 0 rfl rfl (by show 2 ≤ _; decide) (abs_base w) ?_
  (repeat' ((conv => whnf) <;> first | (show idxK _ _ _ _ _; (first | refine idx_of us 1 hus rfl (by rw [hsl]; decide) ?_ | refine idx_of us 2 hus rfl (by rw [hsl]; decide) ?_ | refine idx_of us 3 hus rfl (by rw [hsl]; decide) ?_ | refine idx_of ut 1 hut rfl (by rw [htl]; decide) ?_ | refine idx_of ut 2 hut rfl (by rw [htl]; decide) ?_)) | (show roK _ _ _; (first | refine ro_row0 hsr [.int .i64 k1] (.int .i64 k1) (j := 1) rfl rfl ?_ | refine ro_row0 hsr [.int .i64 k2] (.int .i64 k2) (j := 2) rfl rfl ?_ | refine ro_row0 hsr [.int .i64 k3] (.int .i64 k3) (j := 3) rfl rfl ?_ | refine ro_row0 htr [.int .i64 i1] (.int .i64 i1) (j := 1) rfl rfl ?_ | refine ro_row0 htr [.int .i64 i2] (.int .i64 i2) (j := 2) rfl rfl ?_)) | (show remK _ _ _; (refine rem_pos (by omega) (by omega) ?_)) | (show divK _ _ _ _; (refine div_pos rfl (by omega) (by omega) (by omega) ?_)) | (show drawK _ 1 _ _ _ _ _ _; (refine draw_quiet tabOk mixed (by kernel_rfl) ?_)) | (show drawK _ 4 _ _ _ _ _ _; (refine draw_quiet tabOk mixed (by kernel_rfl) ?_)) | (show drawK _ 9 _ _ _ _ _ _; (refine draw_quiet tabOk mixed (by kernel_rfl) ?_)) | (show drawK _ 10 _ _ _ _ _ _; (refine draw_tree tabOk mixed [] _ (.take 0 (.take 1 (.take 2 (.take 3 (.take 4 (.take 5 (.take 6 (.take 7 (.take 8 (.take 9 (.take 10 (.take 11 (.take 12 (.take 13 (.take 14 (.take 15 (.take 16 (.take 17 (.take 18 (.take 19 (.take 20 (.take 21 (.take 22 (.take 23 (.take 24 (.take 25 (.take 26 (.take 27 (.take 28 (.take 29 (.take 30 (.take 31 (.take 32 (.take 33 (.take 34 (.take 35 (.take 36 (.take 37 (.take 38 (.one 39 (.one 40 (.take 41 (.done))))))))))))))))))))))))))))))))))))))))))) (by kernel_rfl) (by kernel_rfl) (by kernel_rfl) (List.Sublist.refl _) ?_)) | (show Wp _ _ _ _ _ _ _; (refine Wp.go tabOk rfl ?_)) | (show @cmpK _ _ _; (first | refine cmp_yes (by omega) ?_ | refine cmp_no (by omega) ?_ | (refine cmp_both ?_ ?_ <;> intro _))) | (show wrapK _ _ _; (refine wrap_i64 (by omega) (by omega) ?_)) | (show leK _ _ _; (refine le_of (by first | exact Nat.le_refl _ | omega) ?_)) | (show roomK _ _ _; (refine room_of (by first | omega | (dsimp only; omega)) ?_)) | (show ltK _ _ _; (refine lt_of (by omega) ?_)) | (show _ ∧ _; (refine ⟨?_, ?_⟩)) | (show keepK _ _ _ _ _; (refine keep_of (by first | exact List.Sublist.refl _ | exact List.Sublist.cons _ (List.Sublist.refl _) | exact List.Sublist.cons _ (List.Sublist.cons _ (List.Sublist.refl _)) | exact List.Sublist.cons _ (List.Sublist.cons _ (List.Sublist.cons _ (List.Sublist.refl _)))) (by first | exact (fun _ _ h => h) | exact (fun _ _ h => h.1) | exact (fun _ _ h => h.1.1)) ?_)) | (show ownK _ _ _ _ _; (refine own_keep ?_)) | (show apK _ _; (refine ap_old ?_))))
  rw [hQ]
  have mK1 := mul_bd (x := o / (i2 - k3 + 1) / (i1 - k2 + 1)) (y := k1) (A := 64) (B := 64) (by omega) (by omega)
  have mK2 := mul_bd (x := o / (i2 - k3 + 1) / (i1 - k2 + 1) * k1) (y := k2) (A := 64 * 64) (B := 64) mK1 (by omega)
  have mK3 := mul_bd (x := o / (i2 - k3 + 1) / (i1 - k2 + 1) * k1 * k2) (y := k3) (A := 64 * 64 * 64) (B := 64) mK2 (by omega)
  have e1 : o / (i2 - k3 + 1) / (i1 - k2 + 1) * k1 * k2 * k3 = o / (i2 - k3 + 1) / (i1 - k2 + 1) * (Q : Int) := by rw [← hQ]; grind
  have e2 : k0 * k1 * k2 * k3 = k0 * (Q : Int) := by rw [← hQ]; grind
  have e3 : (o / (i2 - k3 + 1) / (i1 - k2 + 1) + 1) * (Q : Int) ≤ k0 * (Q : Int) := Int.mul_le_mul_of_nonneg_right (by omega) (by omega)
  rw [Int.add_mul, Int.one_mul] at e3
  have e4 : 0 ≤ o / (i2 - k3 + 1) / (i1 - k2 + 1) * (Q : Int) := Int.mul_nonneg d5 (by omega)
  refine Wp.loop (σ := Nat × Nat) 2 (fun ⟨i, m⟩ => [(2, .lp 0 0 0 0), (5, .c (.int .i64 k2)), (6, .c (.int .i64 k3)), (9, .c (.int .i64 (o % (i2 - k3 + 1)))), (10, .c (.int .i64 (o / (i2 - k3 + 1) % (i1 - k2 + 1)))), (11, .c (.int .i64 (o / (i2 - k3 + 1) / (i1 - k2 + 1)))), (12, .os 1 m), (62, .c (.int .i64 Q)), (63, .c (.int .i64 i))]) (fun ⟨i, m⟩ => [(1, .rows (spRows ((List.range i).map (convTerm n.data.xs k1 k2 k3 i1 i2 o))) 2 110), (0, .box [.c (.int .i64 n.kind), .c (.int .i64 n.a), .c (.int .i64 n.b), .c n.shape.val, .c (.int .i64 n.lo), .c (.int .i64 n.hi), .c (.int .i64 n.size), .c n.data.val, .c n.bias.val, .c t.val, .c fnV, .c (.int .i64 c)] 75)]) (fun _ => baseA w)
    (fun ⟨i, m⟩ => i ≤ Q ∧ m = i) (fun s => Q - s.1) (0, 0) [(1, none)] (by decide) (fun s => ⟨rfl, rfl⟩) ⟨Nat.zero_le _, rfl⟩ ⟨rfl, ⟨rfl, rfl, rfl, rfl, rfl, rfl, rfl, rfl, rfl, trivial⟩, ⟨rfl, (by repeat (first | exact List.mem_cons_self | apply List.mem_cons_of_mem)), trivial⟩, fun _ _ h => h⟩ ?_
  rintro ⟨i, m⟩ ⟨hiQ, hmi⟩
  subst hmi
  have hil : ((List.range m).map (convTerm n.data.xs k1 k2 k3 i1 i2 o)).length = m := by simp
  by_cases hlt : m < Q
  · have hsn : (List.range (m + 1)).map (convTerm n.data.xs k1 k2 k3 i1 i2 o) = (List.range m).map (convTerm n.data.xs k1 k2 k3 i1 i2 o) ++ [convTerm n.data.xs k1 k2 k3 i1 i2 o m] := by rw [List.range_succ, List.map_append]; rfl
    obtain ⟨c1, c2, c3, c4⟩ := div_bd (x := (m : Int)) (y := k3) (by omega) (by omega)
    obtain ⟨c5, c6, c7, c8⟩ := div_bd (x := (m : Int) / k3) (y := k2) c1 (by omega)
    have p1 := mul_bd (x := (m : Int) / k3 / k2) (y := i1) (A := 262144) (B := 64) (by omega) (by omega)
    have p2 := mul_bd (x := (m : Int) / k3 / k2 * i1 + o / (i2 - k3 + 1) % (i1 - k2 + 1) + (m : Int) / k3 % k2) (y := i2) (A := 16777400) (B := 64) (by omega) (by omega)
    obtain ⟨ud, hud⟩ := hd.base (by omega)
    have hdr : ∀ (R : Nat → Prop) w', (baseA w).holds R w' → RowsI w' (some ud) 1 (ints n.data.xs) := fun R w' h => by rw [← hud]; exact rows_base h hd.rows
    (repeat' ((conv => whnf) <;> first | (show keepK _ _ _ _ _; (refine keep_of (by repeat (first | exact List.Sublist.refl _ | exact List.nil_sublist _ | apply List.Sublist.cons_cons | apply List.Sublist.cons)) (fun _ _ h => h) ?_)) | (show drawK _ 10 _ _ _ _ _ _; (refine draw_tree tabOk mixed [] [(0, .box [.c (.int .i64 n.kind), .c (.int .i64 n.a), .c (.int .i64 n.b), .c n.shape.val, .c (.int .i64 n.lo), .c (.int .i64 n.hi), .c (.int .i64 n.size), .c n.data.val, .c n.bias.val, .c t.val, .c fnV, .c (.int .i64 c)] 75)] (.take 0 (.take 1 (.take 2 (.take 3 (.take 4 (.take 5 (.take 6 (.take 7 (.take 8 (.take 9 (.take 10 (.take 11 (.take 12 (.take 13 (.take 14 (.take 15 (.take 16 (.take 17 (.take 18 (.take 19 (.take 20 (.take 21 (.take 22 (.take 23 (.take 24 (.take 25 (.take 26 (.take 27 (.take 28 (.take 29 (.take 30 (.take 31 (.take 32 (.take 33 (.take 34 (.take 35 (.take 36 (.take 37 (.take 38 (.one 39 (.one 40 (.take 41 (.done))))))))))))))))))))))))))))))))))))))))))) (by kernel_rfl) (by kernel_rfl) (by kernel_rfl) (by repeat (first | exact List.Sublist.refl _ | exact List.nil_sublist _ | apply List.Sublist.cons_cons | apply List.Sublist.cons)) ?_)) | (show idxK _ _ _ _ _; (first | refine idx_of us 1 hus rfl (by rw [hsl]; decide) ?_ | refine idx_of us 2 hus rfl (by rw [hsl]; decide) ?_ | refine idx_of us 3 hus rfl (by rw [hsl]; decide) ?_ | refine idx_of ut 1 hut rfl (by rw [htl]; decide) ?_ | refine idx_of ut 2 hut rfl (by rw [htl]; decide) ?_)) | (show roK _ _ _; (first | refine ro_row0 hsr [.int .i64 k1] (.int .i64 k1) (j := 1) rfl rfl ?_ | refine ro_row0 hsr [.int .i64 k2] (.int .i64 k2) (j := 2) rfl rfl ?_ | refine ro_row0 hsr [.int .i64 k3] (.int .i64 k3) (j := 3) rfl rfl ?_ | refine ro_row0 htr [.int .i64 i1] (.int .i64 i1) (j := 1) rfl rfl ?_ | refine ro_row0 htr [.int .i64 i2] (.int .i64 i2) (j := 2) rfl rfl ?_)) | (show idxK _ _ _ _ _; (refine idx_z hud (by omega) (by omega) ?_)) | (show roK _ _ _; (refine ro_int hdr (j := (o / (i2 - k3 + 1) / (i1 - k2 + 1) * k1 * k2 * k3 + (m : Int)).toNat) (by omega) ?_)) | (show remK _ _ _; (refine rem_pos (by omega) (by omega) ?_)) | (show divK _ _ _ _; (refine div_pos rfl (by omega) (by omega) (by omega) ?_)) | (show leK _ _ _; (refine le_of (by rw [spRows_length, hil]; exact Nat.le_refl _) ?_)) | (show roomK _ _ _; (refine room_of (by show (m + 1) * 16 ≤ 140737488355328; omega) ?_)) | (show drawK _ 1 _ _ _ _ _ _; (refine draw_quiet tabOk mixed (by kernel_rfl) ?_)) | (show drawK _ 4 _ _ _ _ _ _; (refine draw_quiet tabOk mixed (by kernel_rfl) ?_)) | (show drawK _ 9 _ _ _ _ _ _; (refine draw_quiet tabOk mixed (by kernel_rfl) ?_)) | (show Wp _ _ _ _ _ _ _; (refine Wp.go tabOk rfl ?_)) | (show @cmpK _ _ _; (first | refine cmp_yes (by omega) ?_ | refine cmp_no (by omega) ?_ | (refine cmp_both ?_ ?_ <;> intro _))) | (show wrapK _ _ _; (refine wrap_i64 (by omega) (by omega) ?_)) | (show leK _ _ _; (refine le_of (by first | exact Nat.le_refl _ | omega) ?_)) | (show roomK _ _ _; (refine room_of (by first | omega | (dsimp only; omega)) ?_)) | (show ltK _ _ _; (refine lt_of (by omega) ?_)) | (show _ ∧ _; (refine ⟨?_, ?_⟩)) | (show keepK _ _ _ _ _; (refine keep_of (by first | exact List.Sublist.refl _ | exact List.Sublist.cons _ (List.Sublist.refl _) | exact List.Sublist.cons _ (List.Sublist.cons _ (List.Sublist.refl _)) | exact List.Sublist.cons _ (List.Sublist.cons _ (List.Sublist.cons _ (List.Sublist.refl _)))) (by first | exact (fun _ _ h => h) | exact (fun _ _ h => h.1) | exact (fun _ _ h => h.1.1)) ?_)) | (show ownK _ _ _ _ _; (refine own_keep ?_)) | (show apK _ _; (refine ap_old ?_))))
    all_goals (conv => whnf)
    all_goals exact ⟨(m + 1, m + 1), [(1, some 3)], ⟨hlt, rfl⟩, by simp only; omega, rfl, ⟨rfl, rfl, rfl, rfl, rfl, rfl, rfl, rfl, rfl, trivial⟩, ⟨by
      show (3, Ent.rows (spRows ((List.range (m + 1)).map (convTerm n.data.xs k1 k2 k3 i1 i2 o))) 2 110) ∈ _
      rw [hsn]; exact sp_snoc _ _ hil.symm, (by repeat (first | exact List.mem_cons_self | apply List.mem_cons_of_mem)), trivial⟩, fun _ _ h => h⟩
  · obtain rfl : m = Q := by omega
    (repeat' ((conv => whnf) <;> first | (show drawK _ 1 _ _ _ _ _ _; (refine draw_quiet tabOk mixed (by kernel_rfl) ?_)) | (show drawK _ 4 _ _ _ _ _ _; (refine draw_quiet tabOk mixed (by kernel_rfl) ?_)) | (show drawK _ 9 _ _ _ _ _ _; (refine draw_quiet tabOk mixed (by kernel_rfl) ?_)) | (show drawK _ 10 _ _ _ _ _ _; (refine draw_tree tabOk mixed [] _ (.take 0 (.take 1 (.take 2 (.take 3 (.take 4 (.take 5 (.take 6 (.take 7 (.take 8 (.take 9 (.take 10 (.take 11 (.take 12 (.take 13 (.take 14 (.take 15 (.take 16 (.take 17 (.take 18 (.take 19 (.take 20 (.take 21 (.take 22 (.take 23 (.take 24 (.take 25 (.take 26 (.take 27 (.take 28 (.take 29 (.take 30 (.take 31 (.take 32 (.take 33 (.take 34 (.take 35 (.take 36 (.take 37 (.take 38 (.one 39 (.one 40 (.take 41 (.done))))))))))))))))))))))))))))))))))))))))))) (by kernel_rfl) (by kernel_rfl) (by kernel_rfl) (List.Sublist.refl _) ?_)) | (show Wp _ _ _ _ _ _ _; (refine Wp.go tabOk rfl ?_)) | (show @cmpK _ _ _; (first | refine cmp_yes (by omega) ?_ | refine cmp_no (by omega) ?_ | (refine cmp_both ?_ ?_ <;> intro _))) | (show wrapK _ _ _; (refine wrap_i64 (by omega) (by omega) ?_)) | (show leK _ _ _; (refine le_of (by first | exact Nat.le_refl _ | omega) ?_)) | (show roomK _ _ _; (refine room_of (by first | omega | (dsimp only; omega)) ?_)) | (show ltK _ _ _; (refine lt_of (by omega) ?_)) | (show _ ∧ _; (refine ⟨?_, ?_⟩)) | (show keepK _ _ _ _ _; (refine keep_of (by first | exact List.Sublist.refl _ | exact List.Sublist.cons _ (List.Sublist.refl _) | exact List.Sublist.cons _ (List.Sublist.cons _ (List.Sublist.refl _)) | exact List.Sublist.cons _ (List.Sublist.cons _ (List.Sublist.cons _ (List.Sublist.refl _)))) (by first | exact (fun _ _ h => h) | exact (fun _ _ h => h.1) | exact (fun _ _ h => h.1.1)) ?_)) | (show ownK _ _ _ _ _; (refine own_keep ?_)) | (show apK _ _; (refine ap_old ?_))))
    conv => whnf
    exact terms_end rfl (fun _ _ h => h) rfl (by repeat (first | exact List.mem_cons_self | apply List.mem_cons_of_mem)) hil.symm
end Go.Proofs.Ytdmkdogakbipbaa

/- IR -/
namespace Go.Proofs.Ytdmkdogakbipbaa
open Go.SX Go.RowKit
def poolTerm (z i1 i2 o : Int) (i : Nat) : Sp :=
  (1, (o / (i2 / z) / (i1 / z) * i1 + o / (i2 / z) % (i1 / z) * z + (i : Int) / z) * i2 + o % (i2 / z) * z + (i : Int) % z)
def poolT (z i1 i2 o : Int) : List Sp := (List.range (z * z).toNat).map (poolTerm z i1 i2 o)
structure PoolOk (n : NodeV) (t : IntsV) (i1 i2 o : Int) : Prop where
  h_inn : ∃ i0, t.xs = [i0, i1, i2]
  h_z1 : 1 ≤ n.size ∧ n.size ≤ i1
  h_z2 : n.size ≤ i2
  h_i1 : i1 ≤ 64
  h_i2 : i2 ≤ 64
  h_o : 0 ≤ o ∧ o ≤ 64
theorem div_pos1 {x y : Int} (hy : 0 < y) (h : y ≤ x) : 1 ≤ x / y := by
  have := Int.ediv_le_ediv hy h
  rwa [Int.ediv_self (by omega)] at this
set_option maxRecDepth 20000 in
set_option maxHeartbeats 2000000 in
theorem pool_any (w : World) (n : NodeV) (t : IntsV) (ht : t.ok w) (fnV : Value) (c i1 i2 o : Int) (h : PoolOk n t i1 i2 o) : Calls Try.prog 77 #[placeV n t.val fnV c, .int .i64 o] w (TermsPost w (poolT n.size i1 i2 o)) := by
  obtain ⟨⟨i0, hi⟩, bz1, bz2, bi1, bi2, bo⟩ := h
  obtain ⟨ut, hut⟩ := ht.base (by rw [hi]; simp)
  have htr : ∀ (R : Nat → Prop) w', (baseA w).holds R w' → RowsI w' (some ut) 1 (ints [i0, i1, i2]) := fun R w' h => by rw [← hut, ← hi]; exact rows_base h ht.rows
  have htl : t.xs.length = 3 := by rw [hi]; rfl
  have hW := div_pos1 (x := i2) (y := n.size) (by omega) bz2
  have hH := div_pos1 (x := i1) (y := n.size) (by omega) bz1.2
  obtain ⟨a1, a2, _, _⟩ := div_bd (x := i2) (y := n.size) (by omega) (by omega)
  obtain ⟨a5, a6, _, _⟩ := div_bd (x := i1) (y := n.size) (by omega) (by omega)
  obtain ⟨d1, d2, d3, d4⟩ := div_bd (x := o) (y := i2 / n.size) bo.1 (by omega)
  obtain ⟨d5, d6, d7, d8⟩ := div_bd (x := o / (i2 / n.size)) (y := i1 / n.size) d1 (by omega)
  have m1 := mul_bd (x := n.size) (y := n.size) (A := 64) (B := 64) (by omega) (by omega)
  have m2 := Int.mul_pos (show 0 < n.size by omega) (show 0 < n.size by omega)
  have m3 := mul_bd (x := o / (i2 / n.size) / (i1 / n.size)) (y := i1) (A := 64) (B := 64) (by omega) (by omega)
  have m4 := mul_bd (x := o / (i2 / n.size) % (i1 / n.size)) (y := n.size) (A := 64) (B := 64) (by omega) (by omega)
  have m5 := mul_bd (x := o % (i2 / n.size)) (y := n.size) (A := 64) (B := 64) (by omega) (by omega)
  obtain ⟨Q, hQ⟩ : ∃ Q : Nat, n.size * n.size = Q := ⟨(n.size * n.size).toNat, by omega⟩
  have hcT : poolT n.size i1 i2 o = (List.range Q).map (poolTerm n.size i1 i2 o) := by unfold poolT; rw [hQ]; rfl
  rw [hcT]
  refine calls_of tab tabOk Try.func77 rfl rfl rfl [] (fun _ => ⟨none, 0⟩) [.agg [.c (.int .i64 n.kind), .c (.int .i64 n.a), .c (.int .i64 n.b), .c n.shape.val, .c (.int .i64 n.lo), .c (.int .i64 n.hi), .c (.int .i64 n.size), .c n.data.val, .c n.bias.val, .c t.val, .c fnV, .c (.int .i64 c)], .c (.int .i64 o)] [] (baseA w) 0 rfl rfl (by show 2 ≤ _; decide) (abs_base w) ?_
  (repeat' ((conv => whnf) <;> first | (show idxK _ _ _ _ _; (first | refine idx_of ut 1 hut rfl (by rw [htl]; decide) ?_ | refine idx_of ut 2 hut rfl (by rw [htl]; decide) ?_)) | (show roK _ _ _; (first | refine ro_row0 htr [.int .i64 i1] (.int .i64 i1) (j := 1) rfl rfl ?_ | refine ro_row0 htr [.int .i64 i2] (.int .i64 i2) (j := 2) rfl rfl ?_)) | (show remK _ _ _; (refine rem_pos (by omega) (by omega) ?_)) | (show divK _ _ _ _; (refine div_pos rfl (by omega) (by omega) (by omega) ?_)) | (show drawK _ 1 _ _ _ _ _ _; (refine draw_quiet tabOk mixed (by kernel_rfl) ?_)) | (show drawK _ 2 _ _ _ _ _ _; (refine draw_quiet tabOk mixed (by kernel_rfl) ?_)) | (show drawK _ 7 _ _ _ _ _ _; (refine draw_tree tabOk mixed [] _ (.take 0 (.take 1 (.take 2 (.take 3 (.take 4 (.take 5 (.take 6 (.take 7 (.take 8 (.take 9 (.take 10 (.take 11 (.take 12 (.take 13 (.take 14 (.take 15 (.take 16 (.take 17 (.take 18 (.take 19 (.take 20 (.take 21 (.take 22 (.take 23 (.take 24 (.take 25 (.take 26 (.take 27 (.take 28 (.take 29 (.take 30 (.take 31 (.take 32 (.take 33 (.take 34 (.take 35 (.take 36 (.one 37 (.one 38 (.take 39 (.done))))))))))))))))))))))))))))))))))))))))) (by kernel_rfl) (by kernel_rfl) (by kernel_rfl) (List.Sublist.refl _) ?_)) | (show Wp _ _ _ _ _ _ _; (refine Wp.go tabOk rfl ?_)) | (show @cmpK _ _ _; (first | refine cmp_yes (by omega) ?_ | refine cmp_no (by omega) ?_ | (refine cmp_both ?_ ?_ <;> intro _))) | (show wrapK _ _ _; (refine wrap_i64 (by omega) (by omega) ?_)) | (show leK _ _ _; (refine le_of (by first | exact Nat.le_refl _ | omega) ?_)) | (show roomK _ _ _; (refine room_of (by first | omega | (dsimp only; omega)) ?_)) | (show ltK _ _ _; (refine lt_of (by omega) ?_)) | (show _ ∧ _; (refine ⟨?_, ?_⟩)) | (show keepK _ _ _ _ _; (refine keep_of (by first | exact List.Sublist.refl _ | exact List.Sublist.cons _ (List.Sublist.refl _) | exact List.Sublist.cons _ (List.Sublist.cons _ (List.Sublist.refl _)) | exact List.Sublist.cons _ (List.Sublist.cons _ (List.Sublist.cons _ (List.Sublist.refl _)))) (by first | exact (fun _ _ h => h) | exact (fun _ _ h => h.1) | exact (fun _ _ h => h.1.1)) ?_)) | (show ownK _ _ _ _ _; (refine own_keep ?_)) | (show apK _ _; (refine ap_old ?_))))
  rw [hQ]
  refine Wp.loop (σ := Nat × Nat) 2 (fun ⟨i, m⟩ => [(2, .lp 0 0 0 0), (7, .c (.int .i64 (o % (i2 / n.size)))), (8, .c (.int .i64 (o / (i2 / n.size) % (i1 / n.size)))), (9, .c (.int .i64 (o / (i2 / n.size) / (i1 / n.size)))), (10, .os 1 m), (47, .c (.int .i64 Q)), (48, .c (.int .i64 i))]) (fun ⟨i, m⟩ => [(1, .rows (spRows ((List.range i).map (poolTerm n.size i1 i2 o))) 2 110), (0, .box [.c (.int .i64 n.kind), .c (.int .i64 n.a), .c (.int .i64 n.b), .c n.shape.val, .c (.int .i64 n.lo), .c (.int .i64 n.hi), .c (.int .i64 n.size), .c n.data.val, .c n.bias.val, .c t.val, .c fnV, .c (.int .i64 c)] 75)]) (fun _ => baseA w)
    (fun ⟨i, m⟩ => i ≤ Q ∧ m = i) (fun s => Q - s.1) (0, 0) [(1, none)] (by decide) (fun s => ⟨rfl, rfl⟩) ⟨Nat.zero_le _, rfl⟩ ⟨rfl, ⟨rfl, rfl, rfl, rfl, rfl, rfl, rfl, trivial⟩, ⟨rfl, (by repeat (first | exact List.mem_cons_self | apply List.mem_cons_of_mem)), trivial⟩, fun _ _ h => h⟩ ?_
  rintro ⟨i, m⟩ ⟨hiQ, hmi⟩
  subst hmi
  have hil : ((List.range m).map (poolTerm n.size i1 i2 o)).length = m := by simp
  by_cases hlt : m < Q
  · have hsn : (List.range (m + 1)).map (poolTerm n.size i1 i2 o) = (List.range m).map (poolTerm n.size i1 i2 o) ++ [poolTerm n.size i1 i2 o m] := by rw [List.range_succ, List.map_append]; rfl
    obtain ⟨c1, c2, c3, c4⟩ := div_bd (x := (m : Int)) (y := n.size) (by omega) (by omega)
    have p2 := mul_bd (x := o / (i2 / n.size) / (i1 / n.size) * i1 + o / (i2 / n.size) % (i1 / n.size) * n.size + (m : Int) / n.size) (y := i2) (A := 100000) (B := 64) (by omega) (by omega)
    (repeat' ((conv => whnf) <;> first | (show keepK _ _ _ _ _; (refine keep_of (by repeat (first | exact List.Sublist.refl _ | exact List.nil_sublist _ | apply List.Sublist.cons_cons | apply List.Sublist.cons)) (fun _ _ h => h) ?_)) | (show drawK _ 7 _ _ _ _ _ _; (refine draw_tree tabOk mixed [] [(0, .box [.c (.int .i64 n.kind), .c (.int .i64 n.a), .c (.int .i64 n.b), .c n.shape.val, .c (.int .i64 n.lo), .c (.int .i64 n.hi), .c (.int .i64 n.size), .c n.data.val, .c n.bias.val, .c t.val, .c fnV, .c (.int .i64 c)] 75)] (.take 0 (.take 1 (.take 2 (.take 3 (.take 4 (.take 5 (.take 6 (.take 7 (.take 8 (.take 9 (.take 10 (.take 11 (.take 12 (.take 13 (.take 14 (.take 15 (.take 16 (.take 17 (.take 18 (.take 19 (.take 20 (.take 21 (.take 22 (.take 23 (.take 24 (.take 25 (.take 26 (.take 27 (.take 28 (.take 29 (.take 30 (.take 31 (.take 32 (.take 33 (.take 34 (.take 35 (.take 36 (.one 37 (.one 38 (.take 39 (.done))))))))))))))))))))))))))))))))))))))))) (by kernel_rfl) (by kernel_rfl) (by kernel_rfl) (by repeat (first | exact List.Sublist.refl _ | exact List.nil_sublist _ | apply List.Sublist.cons_cons | apply List.Sublist.cons)) ?_)) | (show idxK _ _ _ _ _; (first | refine idx_of ut 1 hut rfl (by rw [htl]; decide) ?_ | refine idx_of ut 2 hut rfl (by rw [htl]; decide) ?_)) | (show roK _ _ _; (first | refine ro_row0 htr [.int .i64 i1] (.int .i64 i1) (j := 1) rfl rfl ?_ | refine ro_row0 htr [.int .i64 i2] (.int .i64 i2) (j := 2) rfl rfl ?_)) | (show remK _ _ _; (refine rem_pos (by omega) (by omega) ?_)) | (show divK _ _ _ _; (refine div_pos rfl (by omega) (by omega) (by omega) ?_)) | (show leK _ _ _; (refine le_of (by rw [spRows_length, hil]; exact Nat.le_refl _) ?_)) | (show roomK _ _ _; (refine room_of (by show (m + 1) * 16 ≤ 140737488355328; omega) ?_)) | (show drawK _ 1 _ _ _ _ _ _; (refine draw_quiet tabOk mixed (by kernel_rfl) ?_)) | (show drawK _ 2 _ _ _ _ _ _; (refine draw_quiet tabOk mixed (by kernel_rfl) ?_)) | (show Wp _ _ _ _ _ _ _; (refine Wp.go tabOk rfl ?_)) | (show @cmpK _ _ _; (first | refine cmp_yes (by omega) ?_ | refine cmp_no (by omega) ?_ | (refine cmp_both ?_ ?_ <;> intro _))) | (show wrapK _ _ _; (refine wrap_i64 (by omega) (by omega) ?_)) | (show leK _ _ _; (refine le_of (by first | exact Nat.le_refl _ | omega) ?_)) | (show roomK _ _ _; (refine room_of (by first | omega | (dsimp only; omega)) ?_)) | (show ltK _ _ _; (refine lt_of (by omega) ?_)) | (show _ ∧ _; (refine ⟨?_, ?_⟩)) | (show keepK _ _ _ _ _; (refine keep_of (by first | exact List.Sublist.refl _ | exact List.Sublist.cons _ (List.Sublist.refl _) | exact List.Sublist.cons _ (List.Sublist.cons _ (List.Sublist.refl _)) | exact List.Sublist.cons _ (List.Sublist.cons _ (List.Sublist.cons _ (List.Sublist.refl _)))) (by first | exact (fun _ _ h => h) | exact (fun _ _ h => h.1) | exact (fun _ _ h => h.1.1)) ?_)) | (show ownK _ _ _ _ _; (refine own_keep ?_)) | (show apK _ _; (refine ap_old ?_))))
    all_goals (conv => whnf)
    all_goals exact ⟨(m + 1, m + 1), [(1, some 3)], ⟨hlt, rfl⟩, by simp only; omega, rfl, ⟨rfl, rfl, rfl, rfl, rfl, rfl, rfl, trivial⟩, ⟨by
      show (3, Ent.rows (spRows ((List.range (m + 1)).map (poolTerm n.size i1 i2 o))) 2 110) ∈ _
      rw [hsn]; exact sp_snoc _ _ hil.symm, (by repeat (first | exact List.mem_cons_self | apply List.mem_cons_of_mem)), trivial⟩, fun _ _ h => h⟩
  · obtain rfl : m = Q := by omega
    (repeat' ((conv => whnf) <;> first | (show drawK _ 1 _ _ _ _ _ _; (refine draw_quiet tabOk mixed (by kernel_rfl) ?_)) | (show drawK _ 2 _ _ _ _ _ _; (refine draw_quiet tabOk mixed (by kernel_rfl) ?_)) | (show drawK _ 7 _ _ _ _ _ _; (refine draw_tree tabOk mixed [] _ (.take 0 (.take 1 (.take 2 (.take 3 (.take 4 (.take 5 (.take 6 (.take 7 (.take 8 (.take 9 (.take 10 (.take 11 (.take 12 (.take 13 (.take 14 (.take 15 (.take 16 (.take 17 (.take 18 (.take 19 (.take 20 (.take 21 (.take 22 (.take 23 (.take 24 (.take 25 (.take 26 (.take 27 (.take 28 (.take 29 (.take 30 (.take 31 (.take 32 (.take 33 (.take 34 (.take 35 (.take 36 (.one 37 (.one 38 (.take 39 (.done))))))))))))))))))))))))))))))))))))))))) (by kernel_rfl) (by kernel_rfl) (by kernel_rfl) (List.Sublist.refl _) ?_)) | (show Wp _ _ _ _ _ _ _; (refine Wp.go tabOk rfl ?_)) | (show @cmpK _ _ _; (first | refine cmp_yes (by omega) ?_ | refine cmp_no (by omega) ?_ | (refine cmp_both ?_ ?_ <;> intro _))) | (show wrapK _ _ _; (refine wrap_i64 (by omega) (by omega) ?_)) | (show leK _ _ _; (refine le_of (by first | exact Nat.le_refl _ | omega) ?_)) | (show roomK _ _ _; (refine room_of (by first | omega | (dsimp only; omega)) ?_)) | (show ltK _ _ _; (refine lt_of (by omega) ?_)) | (show _ ∧ _; (refine ⟨?_, ?_⟩)) | (show keepK _ _ _ _ _; (refine keep_of (by first | exact List.Sublist.refl _ | exact List.Sublist.cons _ (List.Sublist.refl _) | exact List.Sublist.cons _ (List.Sublist.cons _ (List.Sublist.refl _)) | exact List.Sublist.cons _ (List.Sublist.cons _ (List.Sublist.cons _ (List.Sublist.refl _)))) (by first | exact (fun _ _ h => h) | exact (fun _ _ h => h.1) | exact (fun _ _ h => h.1.1)) ?_)) | (show ownK _ _ _ _ _; (refine own_keep ?_)) | (show apK _ _; (refine ap_old ?_))))
    conv => whnf
    exact terms_end rfl (fun _ _ h => h) rfl (by repeat (first | exact List.mem_cons_self | apply List.mem_cons_of_mem)) hil.symm
end Go.Proofs.Ytdmkdogakbipbaa

/- IS -/
namespace Go.Proofs.Ytdmkdogakbipbaa
open Go.SX Go.RowKit
theorem div_to {x y q : Int} {K : Int → Prop} (e : x / y = q) (h0 : 0 ≤ x) (h1 : x ≤ 9223372036854775807) (hy : 0 < y) (h : K q) : divK .i64 x y K := by
  subst e; exact div_pos rfl h0 h1 hy h
def biasI (n : NodeV) (cnt o : Nat) : Int := if n.kind = 3 then n.bias.xs.getD o 0 else if n.kind = 4 then n.bias.xs.getD (o / (cnt / n.bias.xs.length)) 0 else 0
/-- what is known of the closure that tells terms -/
structure TermsOk (w : World) (F : FuncId) (P0 : Value) (cnt : Nat) (T : Nat → List Sp) : Prop where
  enter : ∀ ar w, (callFunc F ar).run Try.prog w = .ok (.enter F ar) w
  calls : ∀ R w', (baseA w).holds R w' → ∀ o, o < cnt → Calls Try.prog F #[P0, .int .i64 o] w' (TermsPost w' (T o))
  few : ∀ o, o < cnt → (T o).length ≤ 64
  bd : ∀ o, o < cnt → ∀ s ∈ T o, bd20 s.1
structure LinOk (w : World) (n : NodeV) (cnt : Nat) : Prop where
  kind : n.kind = 3 ∨ n.kind = 4 ∨ n.kind = 5
  bias : n.bias.ok w
  biasBd : ∀ x ∈ n.bias.xs, bd20 x
  few : cnt ≤ 64
  three : n.kind = 3 → n.bias.xs.length = cnt
  four : n.kind = 4 → 1 ≤ n.bias.xs.length ∧ n.bias.xs.length ≤ cnt ∧ ∀ o, o < cnt → o / (cnt / n.bias.xs.length) < n.bias.xs.length
end Go.Proofs.Ytdmkdogakbipbaa

/- IT -/
namespace Go.Proofs.Ytdmkdogakbipbaa
open Go.SX Go.RowKit
end Go.Proofs.Ytdmkdogakbipbaa

/- IU -/
namespace Go.Proofs.Ytdmkdogakbipbaa
open Go.SX Go.RowKit
theorem entries3_valI {a b c : Int} (h : 0 < entries [a, b, c]) : entries [a, b, c] = a * b * c := by
  unfold entries at h ⊢
  rw [if_neg (by simp)] at h ⊢
  simp only [entLoop] at h ⊢
  split at h
  · simp at h
  · rename_i h1
    split at h
    · simp at h
    · rename_i h2
      split at h
      · simp at h
      · rename_i h3
        rw [if_neg h1, if_neg h2, if_neg h3]
        grind
theorem kernel4I {a b c e : Int} (h : 0 < kernelI [a, b, c, e]) : kernelI [a, b, c, e] = a * b * c * e := by
  unfold kernelI at h ⊢
  rw [if_pos (by simp)] at h ⊢
  simp only [kerLoop] at h ⊢
  split at h
  · simp at h
  · rename_i h1
    split at h
    · simp at h
    · rename_i h2
      split at h
      · simp at h
      · rename_i h3
        split at h
        · simp at h
        · rename_i h4
          rw [if_neg h1, if_neg h2, if_neg h3, if_neg h4]
          grind
theorem div2_lt {o k h w : Int} (ho : o < k * h * w) (hw : 0 < w) (hh : 0 < h) : o / w / h < k :=
  Int.ediv_lt_of_lt_mul hh (Int.ediv_lt_of_lt_mul hw ho)
theorem conv_at {d : List Int} {k1 k2 k3 i1 i2 o : Int} {i : Nat} (h1 : 1 ≤ k1) (h2 : 1 ≤ k2 ∧ k2 ≤ i1) (h3 : 1 ≤ k3 ∧ k3 ≤ i2) (ho : 0 ≤ o) (hi : (i : Int) < k1 * k2 * k3) : 0 ≤ (convTerm d k1 k2 k3 i1 i2 o i).2 ∧ (convTerm d k1 k2 k3 i1 i2 o i).2 < k1 * i1 * i2 := by
  have hW : 0 < i2 - k3 + 1 := by omega
  have hH : 0 < i1 - k2 + 1 := by omega
  obtain ⟨d1, d2, d3, d4⟩ := div_bd ho hW
  obtain ⟨d5, d6, d7, d8⟩ := div_bd d1 hH
  obtain ⟨c1, c2, c3, c4⟩ := div_bd (x := (i : Int)) (y := k3) (by omega) (by omega)
  obtain ⟨c5, c6, c7, c8⟩ := div_bd (x := (i : Int) / k3) (y := k2) c1 (by omega)
  have hc := div2_lt (o := (i : Int)) (k := k1) (h := k2) (w := k3) hi (by omega) (by omega)
  show 0 ≤ ((i : Int) / k3 / k2 * i1 + o / (i2 - k3 + 1) % (i1 - k2 + 1) + (i : Int) / k3 % k2) * i2 + o % (i2 - k3 + 1) + (i : Int) % k3 ∧ ((i : Int) / k3 / k2 * i1 + o / (i2 - k3 + 1) % (i1 - k2 + 1) + (i : Int) / k3 % k2) * i2 + o % (i2 - k3 + 1) + (i : Int) % k3 < k1 * i1 * i2
  generalize (i : Int) / k3 / k2 = C at *
  generalize o / (i2 - k3 + 1) % (i1 - k2 + 1) = Y at *
  generalize (i : Int) / k3 % k2 = DY at *
  generalize o % (i2 - k3 + 1) = X at *
  generalize (i : Int) % k3 = DX at *
  have e1 : C * i1 ≤ (k1 - 1) * i1 := Int.mul_le_mul_of_nonneg_right (by omega) (by omega)
  rw [Int.sub_mul, Int.one_mul] at e1
  have e0 : 0 ≤ C * i1 := Int.mul_nonneg c5 (by omega)
  have e2 : (C * i1 + Y + DY) * i2 ≤ (k1 * i1 - 1) * i2 := Int.mul_le_mul_of_nonneg_right (by omega) (by omega)
  rw [Int.sub_mul, Int.one_mul] at e2
  have e3 : 0 ≤ (C * i1 + Y + DY) * i2 := Int.mul_nonneg (by omega) (by omega)
  omega
theorem pool_at {z i0 i1 i2 o : Int} {i : Nat} (hz : 1 ≤ z) (h1 : z ≤ i1) (h2 : z ≤ i2) (m1 : i1 % z = 0) (m2 : i2 % z = 0) (ho : 0 ≤ o ∧ o < i0 * (i1 / z) * (i2 / z)) (hi : (i : Int) < z * z) : 0 ≤ (poolTerm z i1 i2 o i).2 ∧ (poolTerm z i1 i2 o i).2 < i0 * i1 * i2 := by
  have hW := div_pos1 (x := i2) (y := z) (by omega) h2
  have hH := div_pos1 (x := i1) (y := z) (by omega) h1
  have q1 := Int.mul_ediv_add_emod i1 z
  have q2 := Int.mul_ediv_add_emod i2 z
  obtain ⟨d1, d2, d3, d4⟩ := div_bd (x := o) (y := i2 / z) ho.1 (by omega)
  obtain ⟨d5, d6, d7, d8⟩ := div_bd (x := o / (i2 / z)) (y := i1 / z) d1 (by omega)
  obtain ⟨c1, c2, c3, c4⟩ := div_bd (x := (i : Int)) (y := z) (by omega) (by omega)
  have hdy : (i : Int) / z < z := Int.ediv_lt_of_lt_mul (by omega) hi
  have hc := div2_lt (o := o) (k := i0) (h := i1 / z) (w := i2 / z) ho.2 (by omega) (by omega)
  show 0 ≤ (o / (i2 / z) / (i1 / z) * i1 + o / (i2 / z) % (i1 / z) * z + (i : Int) / z) * i2 + o % (i2 / z) * z + (i : Int) % z ∧ (o / (i2 / z) / (i1 / z) * i1 + o / (i2 / z) % (i1 / z) * z + (i : Int) / z) * i2 + o % (i2 / z) * z + (i : Int) % z < i0 * i1 * i2
  generalize o / (i2 / z) / (i1 / z) = C at *
  generalize o / (i2 / z) % (i1 / z) = Y at *
  generalize o % (i2 / z) = X at *
  generalize (i : Int) / z = DY at *
  generalize (i : Int) % z = DX at *
  have y1 : Y * z ≤ (i1 / z - 1) * z := Int.mul_le_mul_of_nonneg_right (by omega) (by omega)
  have x1 : X * z ≤ (i2 / z - 1) * z := Int.mul_le_mul_of_nonneg_right (by omega) (by omega)
  have y2 : (i1 / z - 1) * z = z * (i1 / z) - z := by rw [Int.sub_mul, Int.one_mul, Int.mul_comm]
  have x2 : (i2 / z - 1) * z = z * (i2 / z) - z := by rw [Int.sub_mul, Int.one_mul, Int.mul_comm]
  have y0 : 0 ≤ Y * z := Int.mul_nonneg d7 (by omega)
  have x0 : 0 ≤ X * z := Int.mul_nonneg d3 (by omega)
  have y1' : Y * z ≤ i1 - z := by omega
  have x1' : X * z ≤ i2 - z := by omega
  have e1 : C * i1 ≤ (i0 - 1) * i1 := Int.mul_le_mul_of_nonneg_right (by omega) (by omega)
  rw [Int.sub_mul, Int.one_mul] at e1
  have e0 : 0 ≤ C * i1 := Int.mul_nonneg d5 (by omega)
  have e2 : (C * i1 + Y * z + DY) * i2 ≤ (i0 * i1 - 1) * i2 := Int.mul_le_mul_of_nonneg_right (by omega) (by omega)
  rw [Int.sub_mul, Int.one_mul] at e2
  have e3 : 0 ≤ (C * i1 + Y * z + DY) * i2 := Int.mul_nonneg (by omega) (by omega)
  omega
end Go.Proofs.Ytdmkdogakbipbaa

/- IV -/
namespace Go.Proofs.Ytdmkdogakbipbaa
open Go.SX Go.RowKit
def termsG (n : NodeV) (tl : List Int) (o : Nat) : List Sp :=
  if n.kind = 3 then denseT n o (entries tl).toNat
  else if n.kind = 4 then convT n.data.xs (n.shape.xs.getD 1 0) (n.shape.xs.getD 2 0) (n.shape.xs.getD 3 0) (tl.getD 1 0) (tl.getD 2 0) o
  else poolT n.size (tl.getD 1 0) (tl.getD 2 0) o
theorem form4 {n : NodeV} {at_ : Nat} (h : formB n at_ = true) (hk : n.kind = 4) : (n.data.xs.length : Int) = kernelI n.shape.xs ∧ (n.bias.xs.length : Int) = n.shape.xs.getD 0 0 := by
  unfold formB at h
  repeat (first | rw [if_pos (by omega)] at h | rw [if_neg (by omega)] at h)
  simp only [Bool.and_eq_true, decide_eq_true_eq] at h
  exact ⟨h.1.2, h.2⟩
theorem list4 {l : List Int} (h : l.length = 4) : l = [l.getD 0 0, l.getD 1 0, l.getD 2 0, l.getD 3 0] := by
  match l, h with
  | [a, b, c, d], _ => rfl
/-- what a node over weights, at its place, is known to be -/
structure LinIn (n : NodeV) (t : IntsV) (cnt : Nat) (F : FuncId) (P0 : Value) : Prop where
  fn : termsF n t.val cnt = .func (.func F) #[P0] #[]
  terms : ∀ w, t.ok w → n.ok w → TermsOk w F P0 cnt (termsG n t.xs)
  lin : ∀ w, n.ok w → LinOk w n cnt
  at_ : ∀ o, o < cnt → ∀ s ∈ termsG n t.xs o, 0 ≤ s.2 ∧ s.2 < entries t.xs
set_option maxHeartbeats 1000000 in
theorem lin_in {n : NodeV} {sh : List (List Int)} {s : List Int} {t : IntsV} {cnt : Nat} (hn : NodeIn n sh s) (hk : n.kind = 3 ∨ n.kind = 4 ∨ n.kind = 5) (ht : sh.getD n.a.toNat [] = t.xs) (hg : 0 < entries t.xs) (hgs : ∀ q ∈ sh, 0 < entries q) (hc : entries s = cnt) : ∃ F P0, LinIn n t cnt F P0 := by
  have hsh := hn.shape
  have hfo := formed_of hn.form
  have h4 := form4 hn.form
  obtain ⟨nd, nb, _, _, _⟩ := near_in hn.near
  have heb := (entries_bd t.xs).2
  have hcb : cnt ≤ 64 := by have := (entries_bd s).2; omega
  have hsp := (entries_bd s).1
  rcases hk with hk | hk | hk
  · unfold shapeO at hsh
    rw [if_neg (by omega), if_pos hk, ht] at hsh
    by_cases hdl : (n.data.xs.length : Int) = n.bias.xs.length * entries t.xs
    · rw [if_pos hdl, Option.some.injEq] at hsh
      obtain ⟨b1, b2⟩ := hfo.bias hk
      have he1 : entries [(n.bias.xs.length : Int)] = n.bias.xs.length := by
        unfold entries
        rw [if_neg (by simp)]
        simp only [entLoop]
        rw [if_neg (by omega)]
        omega
      rw [← hsh, he1] at hc
      have hbl : n.bias.xs.length = cnt := by omega
      obtain ⟨size, hsz⟩ : ∃ size : Nat, entries t.xs = size := ⟨(entries t.xs).toNat, by omega⟩
      have hdl' : n.data.xs.length = n.bias.xs.length * size := by
        rw [hsz, ← Int.natCast_mul] at hdl
        exact Int.ofNat.inj hdl
      have hG : ∀ o, termsG n t.xs o = denseT n o size := fun o => by unfold termsG; rw [if_pos hk, hsz]; rfl
      refine ⟨_, _, if_pos hk, fun w hto hno => ⟨Try.call75, fun R w' hb o ho => ?_, fun o ho => ?_, fun o ho x hx => ?_⟩, fun w hno => ⟨.inl hk, hno.bias, nb, hcb, fun _ => hbl, fun h => by omega⟩, fun o ho x hx => ?_⟩
      · rw [hG]
        exact dense_any w' n (hno.data.later hb) ⟨b1, b2⟩ (.slice none 0 0) .nilFunc cnt o size (by omega) hdl' (by omega)
      · rw [hG]; simp [denseT]; omega
      · rw [hG] at hx
        obtain ⟨i, _, rfl⟩ := List.mem_map.1 hx
        exact getD_bd nd _
      · rw [hG] at hx
        obtain ⟨i, hi, rfl⟩ := List.mem_map.1 hx
        rw [List.mem_range] at hi
        simp only
        omega
    · rw [if_neg hdl] at hsh; cases hsh
  · obtain ⟨g1, g2⟩ := h4 hk
    have hker := hfo.kern hk
    obtain ⟨hl4, hdim⟩ := kernel_dims hker
    have hsx := list4 hl4
    unfold shapeO at hsh
    rw [if_neg (by omega), if_neg (by omega), if_pos hk, ht] at hsh
    have hG : ∀ o, termsG n t.xs o = convT n.data.xs (n.shape.xs.getD 1 0) (n.shape.xs.getD 2 0) (n.shape.xs.getD 3 0) (t.xs.getD 1 0) (t.xs.getD 2 0) o := fun o => by unfold termsG; rw [if_neg (by omega), if_pos hk]
    have dm : ∀ k, k < 4 → 1 ≤ n.shape.xs.getD k 0 ∧ n.shape.xs.getD k 0 ≤ 64 := fun k hk => hdim _ (getD_mem (by omega))
    have dm0 := dm 0 (by decide)
    have dm1 := dm 1 (by decide)
    have dm2 := dm 2 (by decide)
    have dm3 := dm 3 (by decide)
    rw [hsx] at g1 hker
    have hke := kernel4I hker
    rw [hke] at g1
    generalize n.shape.xs.getD 0 0 = k0 at *
    generalize n.shape.xs.getD 1 0 = k1 at *
    generalize n.shape.xs.getD 2 0 = k2 at *
    generalize n.shape.xs.getD 3 0 = k3 at *
    by_cases hbad : t.xs.length ≠ 3 ∨ t.xs.getD 0 0 ≠ k1 ∨ t.xs.getD 1 0 < k2 ∨ t.xs.getD 2 0 < k3
    · rw [if_pos hbad] at hsh; cases hsh
    rw [if_neg hbad] at hsh
    have hl3 : t.xs.length = 3 := by omega
    have htx := len3 hl3
    have tdm := (entries_dims hg).2.2
    have td1 := tdm _ (getD_mem (xs := t.xs) (k := 1) (by omega))
    have td2 := tdm _ (getD_mem (xs := t.xs) (k := 2) (by omega))
    have te : entries t.xs = k1 * t.xs.getD 1 0 * t.xs.getD 2 0 := by
      have h0 : t.xs.getD 0 0 = k1 := by omega
      have := entries3_valI (a := t.xs.getD 0 0) (b := t.xs.getD 1 0) (c := t.xs.getD 2 0) (by rw [← htx]; exact hg)
      rw [← htx, h0] at this
      exact this
    generalize hi0 : t.xs.getD 0 0 = i0 at *
    generalize t.xs.getD 1 0 = i1 at *
    generalize t.xs.getD 2 0 = i2 at *
    by_cases hpos : 0 < entries [k0, i1 - k2 + 1, i2 - k3 + 1]
    · rw [if_pos hpos, Option.some.injEq] at hsh
      have hcv := entries3_valI hpos
      rw [hsh, hc] at hcv
      have hQ : k1 * k2 * k3 ≤ k1 * i1 * i2 := by
        have q1 : k1 * k2 ≤ k1 * i1 := Int.mul_le_mul_of_nonneg_left (by omega) (by omega)
        have q0 : 0 < k1 * k2 := Int.mul_pos (by omega) (by omega)
        exact Int.mul_le_mul q1 (by omega) (by omega) (by omega)
      have hQ0 : 0 < k1 * k2 * k3 := Int.mul_pos (Int.mul_pos (by omega) (by omega)) (by omega)
      have hob : ∀ o : Nat, o < cnt → (o : Int) < k0 * (i1 - k2 + 1) * (i2 - k3 + 1) := fun o ho => by rw [← hcv]; omega
      refine ⟨_, _, by unfold termsF; rw [if_neg (by omega), if_pos hk], fun w hto hno => ⟨Try.call76, fun R w' hb o ho => ?_, fun o ho => ?_, fun o ho x hx => ?_⟩, fun w hno => ⟨.inr (.inl hk), hno.bias, nb, hcb, fun h => by omega, fun _ => ?_⟩, fun o ho x hx => ?_⟩
      · rw [hG]
        exact conv_any w' n t (hno.data.later hb) (hno.shape.later hb) (hto.later hb) .nilFunc cnt k0 k1 k2 k3 i1 i2 o ⟨hsx, ⟨i0, htx⟩, dm1, by omega, by omega, by omega, by omega, g1, by omega, by omega, div2_lt (hob o ho) (by omega) (by omega)⟩
      · rw [hG]; simp only [convT, List.length_map, List.length_range]; omega
      · rw [hG] at hx
        obtain ⟨i, _, rfl⟩ := List.mem_map.1 hx
        exact getD_bd nd _
      · have hw1 : 0 < (i1 - k2 + 1) * (i2 - k3 + 1) := Int.mul_pos (by omega) (by omega)
        obtain ⟨A, hA⟩ : ∃ A : Nat, (i1 - k2 + 1) * (i2 - k3 + 1) = A := ⟨((i1 - k2 + 1) * (i2 - k3 + 1)).toNat, by omega⟩
        obtain ⟨B, hB⟩ : ∃ B : Nat, k0 = B := ⟨k0.toNat, by omega⟩
        have hcA : cnt = B * A := by
          have : (cnt : Int) = B * A := by rw [hcv, Int.mul_assoc, hA, hB]
          exact_mod_cast this
        have hbB : n.bias.xs.length = B := by omega
        have hA1 : 1 ≤ A := by omega
        have hB1 : 1 ≤ B := by omega
        rw [hbB, hcA]
        refine ⟨hB1, Nat.le_mul_of_pos_right B hA1, fun o ho => ?_⟩
        rw [Nat.mul_div_cancel_left A hB1]
        exact (Nat.div_lt_iff_lt_mul hA1).2 ho
      · rw [hG] at hx
        obtain ⟨i, hi, rfl⟩ := List.mem_map.1 hx
        rw [List.mem_range] at hi
        rw [te]
        exact conv_at (by omega) (by omega) (by omega) (by omega) (by omega)
    · rw [if_neg hpos] at hsh; cases hsh
  · have hz := hfo.pool hk
    unfold shapeO at hsh
    rw [if_neg (by omega), if_neg (by omega), if_neg (by omega), if_pos hk, ht] at hsh
    have hG : ∀ o, termsG n t.xs o = poolT n.size (t.xs.getD 1 0) (t.xs.getD 2 0) o := fun o => by unfold termsG; rw [if_neg (by omega), if_neg (by omega)]
    by_cases hbad : t.xs.length ≠ 3 ∨ t.xs.getD 1 0 % n.size ≠ 0 ∨ t.xs.getD 2 0 % n.size ≠ 0
    · rw [if_pos hbad] at hsh; cases hsh
    rw [if_neg hbad, Option.some.injEq] at hsh
    have hl3 : t.xs.length = 3 := by omega
    have htx := len3 hl3
    have tdm := (entries_dims hg).2.2
    have td0 := tdm _ (getD_mem (xs := t.xs) (k := 0) (by omega))
    have td1 := tdm _ (getD_mem (xs := t.xs) (k := 1) (by omega))
    have td2 := tdm _ (getD_mem (xs := t.xs) (k := 2) (by omega))
    have te : entries t.xs = t.xs.getD 0 0 * t.xs.getD 1 0 * t.xs.getD 2 0 := by
      have := entries3_valI (a := t.xs.getD 0 0) (b := t.xs.getD 1 0) (c := t.xs.getD 2 0) (by rw [← htx]; exact hg)
      rw [← htx] at this
      exact this
    generalize t.xs.getD 0 0 = i0 at *
    generalize t.xs.getD 1 0 = i1 at *
    generalize t.xs.getD 2 0 = i2 at *
    have m1 : i1 % n.size = 0 := by omega
    have m2 : i2 % n.size = 0 := by omega
    have z1 : n.size ≤ i1 := by
      rcases (by omega : i1 < n.size ∨ n.size ≤ i1) with hlt | hge
      · rw [Int.emod_eq_of_lt (by omega) hlt] at m1; omega
      · exact hge
    have z2 : n.size ≤ i2 := by
      rcases (by omega : i2 < n.size ∨ n.size ≤ i2) with hlt | hge
      · rw [Int.emod_eq_of_lt (by omega) hlt] at m2; omega
      · exact hge
    have hpos : 0 < entries [i0, i1 / n.size, i2 / n.size] := by
      have := shape_good hfo hgs hn.shape rfl
      rw [hsh]; exact this
    have hcv := entries3_valI hpos
    rw [hsh, hc] at hcv
    have hQ : n.size * n.size ≤ i1 * i2 := Int.mul_le_mul z1 z2 (by omega) (by omega)
    have hQ2 : i1 * i2 ≤ i0 * i1 * i2 := by
      have : 1 * (i1 * i2) ≤ i0 * (i1 * i2) := Int.mul_le_mul_of_nonneg_right (by omega) (Int.mul_nonneg (by omega) (by omega))
      rw [Int.mul_assoc]; omega
    have hob : ∀ o : Nat, o < cnt → (o : Int) < i0 * (i1 / n.size) * (i2 / n.size) := fun o ho => by rw [← hcv]; omega
    refine ⟨_, _, by unfold termsF; rw [if_neg (by omega), if_neg (by omega)], fun w hto hno => ⟨Try.call77, fun R w' hb o ho => ?_, fun o ho => ?_, fun o ho x hx => ?_⟩, fun w hno => ⟨.inr (.inr hk), hno.bias, nb, hcb, fun h => by omega, fun h => by omega⟩, fun o ho x hx => ?_⟩
    · rw [hG]
      exact pool_any w' n t (hto.later hb) .nilFunc cnt i1 i2 o ⟨⟨i0, htx⟩, by omega, z2, by omega, by omega, by omega⟩
    · rw [hG]; simp only [poolT, List.length_map, List.length_range]; omega
    · rw [hG] at hx
      obtain ⟨i, _, rfl⟩ := List.mem_map.1 hx
      exact ⟨(show (-1048576 : Int) ≤ 1 by decide), (show (1 : Int) ≤ 1048576 by decide)⟩
    · rw [hG] at hx
      obtain ⟨i, hi, rfl⟩ := List.mem_map.1 hx
      rw [List.mem_range] at hi
      rw [te]
      have hzz := Int.mul_pos (show 0 < n.size by omega) (show 0 < n.size by omega)
      exact pool_at (by omega) z1 z2 m1 m2 ⟨by omega, hob o ho⟩ (by omega)
end Go.Proofs.Ytdmkdogakbipbaa

/- IW -/
namespace Go.Proofs.Ytdmkdogakbipbaa
open Go.SX Go.RowKit
def isLin (n : NodeV) : Prop := n.kind = 3 ∨ n.kind = 4 ∨ n.kind = 5
instance (n : NodeV) : Decidable (isLin n) := inferInstanceAs (Decidable (_ ∨ _))
theorem shapes_pos {g : GraphV} (h : (check g).1 = 0) : ∀ q ∈ (check g).2, 0 < entries q := by
  obtain ⟨_, _, _, hcl, hin⟩ := check_in h
  have key : ∀ i, i ≤ g.l.length → ∀ q ∈ (check g).2.take i, 0 < entries q := by
    intro i
    induction i with
    | zero => intro _ q hq; simp at hq
    | succ i ih =>
      intro hi q hq
      obtain ⟨s, hs, hni⟩ := hin i g.l[i] (List.getElem?_eq_getElem (by omega))
      obtain ⟨hls, hse⟩ := List.getElem?_eq_some_iff.1 hs
      rw [List.take_succ_eq_append_getElem hls, hse] at hq
      rcases List.mem_append.1 hq with hq | hq
      · exact ih (by omega) q hq
      · simp at hq; subst hq
        exact shape_good (formed_of hni.form) (ih (by omega)) hni.shape rfl
  intro q hq
  have := key g.l.length (Nat.le_refl _) q
  rw [List.take_of_length_le (by omega)] at this
  exact this hq
/-- a node at its place: its shape s, the shape t of its first node -/
structure PlaceIn (n : NodeV) (sh : List (List Int)) (s t : List Int) (cnt : Nat) : Prop where
  node : NodeIn n sh s
  cnt : entries s = cnt
  pos : ∀ q ∈ sh, 0 < entries q
  first : isLin n → sh.getD n.a.toNat [] = t ∧ 0 < entries t
theorem PlaceIn.few {n : NodeV} {sh : List (List Int)} {s t : List Int} {cnt : Nat} (h : PlaceIn n sh s t cnt) : 1 ≤ cnt ∧ cnt ≤ 64 := by
  have h1 := shape_good (formed_of h.node.form) h.pos h.node.shape rfl
  have h2 := (entries_bd s).2
  have h3 := h.cnt
  omega
theorem PlaceIn.lin {n : NodeV} {sh : List (List Int)} {s : List Int} {t : IntsV} {cnt : Nat} (h : PlaceIn n sh s t.xs cnt) (hl : isLin n) : ∃ F P0, LinIn n t cnt F P0 :=
  lin_in h.node hl (h.first hl).1 (h.first hl).2 h.pos h.cnt
end Go.Proofs.Ytdmkdogakbipbaa

/- JE -/
namespace Go.Proofs.Ytdmkdogakbipbaa
open Go.SX Go.RowKit
def setT (r : List Int) (t : Sp) : List Int := r.set t.2.toNat t.1
theorem setT_length (r : List Int) (t : Sp) : (setT r t).length = r.length := by simp [setT]
theorem setsT_length : ∀ (T : List Sp) (r : List Int), (T.foldl setT r).length = r.length
  | [], r => rfl
  | t :: T, r => by rw [List.foldl_cons, setsT_length T, setT_length]
end Go.Proofs.Ytdmkdogakbipbaa

/- JF -/
namespace Go.Proofs.Ytdmkdogakbipbaa
open Go.SX Go.RowKit
def matRow (n : NodeV) (tl : List Int) (o : Nat) : List Int :=
  if n.kind = 3 then (n.data.xs.drop (o * (entries tl).toNat)).take (entries tl).toNat else (termsG n tl o).foldl setT (List.replicate (entries tl).toNat 0)
def matRows (n : NodeV) (tl : List Int) (cnt : Nat) : List (List Int) := (List.range cnt).map (matRow n tl)
def matBias (n : NodeV) (cnt : Nat) : List Int := (List.range cnt).map (biasI n cnt)
/-- a node's sizes, of the kind of a convolution -/
structure ConvIn (n : NodeV) (t : List Int) : Prop where
  k2 : 1 ≤ n.shape.xs.getD 2 0 ∧ n.shape.xs.getD 2 0 ≤ t.getD 1 0
  k3 : 1 ≤ n.shape.xs.getD 3 0 ∧ n.shape.xs.getD 3 0 ≤ t.getD 2 0
theorem conv_in {n : NodeV} {sh : List (List Int)} {s t : List Int} {cnt : Nat} (h : PlaceIn n sh s t cnt) (hk : n.kind = 4) : ConvIn n t := by
  have hsh := h.node.shape
  have hker := (formed_of h.node.form).kern hk
  obtain ⟨hl4, hdim⟩ := kernel_dims hker
  have dm2 := hdim _ (getD_mem (xs := n.shape.xs) (k := 2) (by omega))
  have dm3 := hdim _ (getD_mem (xs := n.shape.xs) (k := 3) (by omega))
  unfold shapeO at hsh
  rw [if_neg (by omega), if_neg (by omega), if_pos hk, (h.first (.inr (.inl hk))).1] at hsh
  split at hsh
  · cases hsh
  · exact ⟨by omega, by omega⟩
structure PoolIn (n : NodeV) (t : List Int) : Prop where
  z : 1 ≤ n.size
  z1 : n.size ≤ t.getD 1 0
  z2 : n.size ≤ t.getD 2 0
  m1 : t.getD 1 0 % n.size = 0
  m2 : t.getD 2 0 % n.size = 0
theorem pool_in {n : NodeV} {sh : List (List Int)} {s t : List Int} {cnt : Nat} (h : PlaceIn n sh s t cnt) (hk : n.kind = 5) : PoolIn n t := by
  have hsh := h.node.shape
  have hz := (formed_of h.node.form).pool hk
  obtain ⟨hf, hg⟩ := h.first (.inr (.inr hk))
  unfold shapeO at hsh
  rw [if_neg (by omega), if_neg (by omega), if_neg (by omega), if_pos hk, hf] at hsh
  split at hsh
  · cases hsh
  · rename_i hbad
    have tdm := (entries_dims hg).2.2
    have td1 := tdm _ (getD_mem (xs := t) (k := 1) (by omega))
    have td2 := tdm _ (getD_mem (xs := t) (k := 2) (by omega))
    have m1 : t.getD 1 0 % n.size = 0 := by omega
    have m2 : t.getD 2 0 % n.size = 0 := by omega
    refine ⟨by omega, ?_, ?_, m1, m2⟩
    · rcases (by omega : t.getD 1 0 < n.size ∨ n.size ≤ t.getD 1 0) with hlt | hge
      · rw [Int.emod_eq_of_lt (by omega) hlt] at m1; omega
      · exact hge
    · rcases (by omega : t.getD 2 0 < n.size ∨ n.size ≤ t.getD 2 0) with hlt | hge
      · rw [Int.emod_eq_of_lt (by omega) hlt] at m2; omega
      · exact hge
end Go.Proofs.Ytdmkdogakbipbaa

