import Derived.Test.YtajbngkcgbehlaaGM
namespace Go.Proofs.Ytajbngkcgbehlaa
open Go.SX Go.RowKit
set_option maxRecDepth 20000 in
set_option maxHeartbeats 8000000 in
theorem refForm_4 (w : World) (n : NodeV) (hn : n.ok w) (at_ : Int) (hk : n.kind = 4) :
    Calls Try.prog 46 #[.agg n.cells.toArray, .int .i64 at_] w fun e w' => e = .returned (.bool (formB n at_)) ∧ Ext w w' := by
  have hm : mayL n.kind = some [true, false, true, false, false, true, true] := by unfold mayL; rw [hk]; rfl
  obtain ⟨a, hbase⟩ := ints_base hn.shape
  have hfb : formB n at_ = formB n at_ := rfl
  conv at hfb => rhs; unfold formB
  repeat (first | rw [if_pos (by omega)] at hfb | rw [if_neg (by omega)] at hfb)
  rw [lacks_eq] at hfb
  simp only [aheadB] at hfb
  have hK4 : n.shape.xs.length = 4 → kernelI n.shape.xs = kerLoop 1 n.shape.xs := fun h => by unfold kernelI; rw [if_pos h]
  have hK0 : n.shape.xs.length ≠ 4 → kernelI n.shape.xs = 0 := fun h => by unfold kernelI; rw [if_neg h]
  refine calls_of tab tabOk Try.func46 rfl rfl rfl [] (fun _ => ⟨none, 0⟩) [.agg [.c (.int .i64 n.kind), .c (.int .i64 n.a), .c (.int .i64 n.b), .c n.shape.val, .c (.int .i64 n.lo), .c (.int .i64 n.hi), .c (.int .i64 n.size), .c n.data.val, .c n.bias.val], .c (.int .i64 at_)] [] (baseA w) 0 rfl rfl (by show 2 ≤ _; decide) (abs_base w) ?_
  (repeat' ((conv => whnf) <;> first | (show callK _ 92 _ _ _ _ _; (refine call_bools (f := 92) [true, false, true, false, false, true, true] 7 rfl Try.call92 (fun ρ w' hw => may_any w' n.kind [true, false, true, false, false, true, true] hm) (fun m am hml ham hmn => ?_))) | (show pureK _ _ _; (first | refine slice_nil_no (ti 87 rfl) rfl ham ?_)) | (show callK _ 93 _ _ _ _ _; (refine call_bools (f := 93) (hasL n) 7 rfl Try.call93 (fun ρ w' hw => has_any w' n) (fun h ah hhl hah hhn => ?_))) | (show callK _ 21 _ _ _ _ _; (refine call_pure (f := 21) Try.call21 _ (fun ρ w' hw => refEntries_any w' n.shape.base n.shape.cap n.shape.xs (holds_of_abs hw fun R h => rows_base h.1.1 hn.shape.rows)) ?_)) | (show callQ _ 21 _ _ _ _ _; (refine callQ_of (f := 21) Try.call21 _ (fun ρ w' hw => refEntries_any w' n.shape.base n.shape.cap n.shape.xs (holds_of_abs hw fun R h => rows_base h.1.1 hn.shape.rows)) ?_)) | (show idxK _ _ _ _ _; (first | refine idx_of ah 0 hah rfl (by omega) ?_ | refine idx_of am 0 ham rfl (by omega) ?_ | refine idx_of ah 1 hah rfl (by omega) ?_ | refine idx_of am 1 ham rfl (by omega) ?_ | refine idx_of ah 2 hah rfl (by omega) ?_ | refine idx_of am 2 ham rfl (by omega) ?_ | refine idx_of ah 3 hah rfl (by omega) ?_ | refine idx_of am 3 ham rfl (by omega) ?_ | refine idx_of ah 4 hah rfl (by omega) ?_ | refine idx_of am 4 ham rfl (by omega) ?_ | refine idx_of ah 5 hah rfl (by omega) ?_ | refine idx_of am 5 ham rfl (by omega) ?_ | refine idx_of ah 6 hah rfl (by omega) ?_ | refine idx_of am 6 ham rfl (by omega) ?_ | refine idx_of _ 0 (hbase (by omega)) rfl (by omega) ?_)) | (show roK _ _ _; (first | (refine ro_prop (j := 0) (n.a ≠ 0) (fun R w' h => boolsA_in hhl hah (by first | exact h.2 | exact h.1.2)) (show 0 < 7 by decide) rfl ?_ ?_ <;> intro _) | refine ro_bool (j := 0) (fun R w' h => boolsA_in hml ham (by first | exact h.1.2 | exact h.2)) (show 0 < 7 by decide) ?_ | (refine ro_prop (j := 1) (n.b ≠ 0) (fun R w' h => boolsA_in hhl hah (by first | exact h.2 | exact h.1.2)) (show 1 < 7 by decide) rfl ?_ ?_ <;> intro _) | refine ro_bool (j := 1) (fun R w' h => boolsA_in hml ham (by first | exact h.1.2 | exact h.2)) (show 1 < 7 by decide) ?_ | (refine ro_prop (j := 2) ((n.shape.xs.length : Int) > 0) (fun R w' h => boolsA_in hhl hah (by first | exact h.2 | exact h.1.2)) (show 2 < 7 by decide) rfl ?_ ?_ <;> intro _) | refine ro_bool (j := 2) (fun R w' h => boolsA_in hml ham (by first | exact h.1.2 | exact h.2)) (show 2 < 7 by decide) ?_ | (refine ro_prop (j := 3) (n.lo ≠ 0 ∨ n.hi ≠ 0) (fun R w' h => boolsA_in hhl hah (by first | exact h.2 | exact h.1.2)) (show 3 < 7 by decide) rfl ?_ ?_ <;> intro _) | refine ro_bool (j := 3) (fun R w' h => boolsA_in hml ham (by first | exact h.1.2 | exact h.2)) (show 3 < 7 by decide) ?_ | (refine ro_prop (j := 4) (n.size ≠ 0) (fun R w' h => boolsA_in hhl hah (by first | exact h.2 | exact h.1.2)) (show 4 < 7 by decide) rfl ?_ ?_ <;> intro _) | refine ro_bool (j := 4) (fun R w' h => boolsA_in hml ham (by first | exact h.1.2 | exact h.2)) (show 4 < 7 by decide) ?_ | (refine ro_prop (j := 5) ((n.data.xs.length : Int) > 0) (fun R w' h => boolsA_in hhl hah (by first | exact h.2 | exact h.1.2)) (show 5 < 7 by decide) rfl ?_ ?_ <;> intro _) | refine ro_bool (j := 5) (fun R w' h => boolsA_in hml ham (by first | exact h.1.2 | exact h.2)) (show 5 < 7 by decide) ?_ | (refine ro_prop (j := 6) ((n.bias.xs.length : Int) > 0) (fun R w' h => boolsA_in hhl hah (by first | exact h.2 | exact h.1.2)) (show 6 < 7 by decide) rfl ?_ ?_ <;> intro _) | refine ro_bool (j := 6) (fun R w' h => boolsA_in hml ham (by first | exact h.1.2 | exact h.2)) (show 6 < 7 by decide) ?_ | refine ro_int (j := 0) (fun R w' h => hn.shape.at_ (hbase (by omega)) R w' (by first | exact h.1.1 | exact h.1)) (by omega) ?_)) | (show drawK _ 17 _ _ _ _ _ _; (refine draw_quiet tabOk mixed (by kernel_rfl) ?_)) | (show drawK _ 31 _ _ _ _ _ _; (refine draw_quiet tabOk mixed (by kernel_rfl) ?_)) | (show Wp _ _ _ _ _ _ _; (refine Wp.go tabOk rfl ?_)) | (show @cmpK _ _ _; (first | refine cmp_yes (by omega) ?_ | refine cmp_no (by omega) ?_ | (refine cmp_both ?_ ?_ <;> intro _))) | (show wrapK _ _ _; (refine wrap_i64 (by omega) (by omega) ?_)) | (show leK _ _ _; (refine le_of (by first | exact Nat.le_refl _ | omega) ?_)) | (show roomK _ _ _; (refine room_of (by first | omega | (dsimp only; omega)) ?_)) | (show ltK _ _ _; (refine lt_of (by omega) ?_)) | (show _ ∧ _; (refine ⟨?_, ?_⟩)) | (show keepK _ _ _ _ _; (refine keep_of (by first | exact List.Sublist.refl _ | exact List.Sublist.cons _ (List.Sublist.refl _) | exact List.Sublist.cons _ (List.Sublist.cons _ (List.Sublist.refl _)) | exact List.Sublist.cons _ (List.Sublist.cons _ (List.Sublist.cons _ (List.Sublist.refl _)))) (by first | exact (fun _ _ h => h) | exact (fun _ _ h => h.1) | exact (fun _ _ h => h.1.1)) ?_)) | (show ownK _ _ _ _ _; (refine own_keep ?_))))
  refine Wp.rounds 8 ?_
  (repeat' ((conv => whnf) <;> first | (show callK _ 92 _ _ _ _ _; (refine call_bools (f := 92) [true, false, true, false, false, true, true] 7 rfl Try.call92 (fun ρ w' hw => may_any w' n.kind [true, false, true, false, false, true, true] hm) (fun m am hml ham hmn => ?_))) | (show pureK _ _ _; (first | refine slice_nil_no (ti 87 rfl) rfl ham ?_)) | (show callK _ 93 _ _ _ _ _; (refine call_bools (f := 93) (hasL n) 7 rfl Try.call93 (fun ρ w' hw => has_any w' n) (fun h ah hhl hah hhn => ?_))) | (show callK _ 21 _ _ _ _ _; (refine call_pure (f := 21) Try.call21 _ (fun ρ w' hw => refEntries_any w' n.shape.base n.shape.cap n.shape.xs (holds_of_abs hw fun R h => rows_base h.1.1 hn.shape.rows)) ?_)) | (show callQ _ 21 _ _ _ _ _; (refine callQ_of (f := 21) Try.call21 _ (fun ρ w' hw => refEntries_any w' n.shape.base n.shape.cap n.shape.xs (holds_of_abs hw fun R h => rows_base h.1.1 hn.shape.rows)) ?_)) | (show idxK _ _ _ _ _; (first | refine idx_of ah 0 hah rfl (by omega) ?_ | refine idx_of am 0 ham rfl (by omega) ?_ | refine idx_of ah 1 hah rfl (by omega) ?_ | refine idx_of am 1 ham rfl (by omega) ?_ | refine idx_of ah 2 hah rfl (by omega) ?_ | refine idx_of am 2 ham rfl (by omega) ?_ | refine idx_of ah 3 hah rfl (by omega) ?_ | refine idx_of am 3 ham rfl (by omega) ?_ | refine idx_of ah 4 hah rfl (by omega) ?_ | refine idx_of am 4 ham rfl (by omega) ?_ | refine idx_of ah 5 hah rfl (by omega) ?_ | refine idx_of am 5 ham rfl (by omega) ?_ | refine idx_of ah 6 hah rfl (by omega) ?_ | refine idx_of am 6 ham rfl (by omega) ?_ | refine idx_of _ 0 (hbase (by omega)) rfl (by omega) ?_)) | (show roK _ _ _; (first | (refine ro_prop (j := 0) (n.a ≠ 0) (fun R w' h => boolsA_in hhl hah (by first | exact h.2 | exact h.1.2)) (show 0 < 7 by decide) rfl ?_ ?_ <;> intro _) | refine ro_bool (j := 0) (fun R w' h => boolsA_in hml ham (by first | exact h.1.2 | exact h.2)) (show 0 < 7 by decide) ?_ | (refine ro_prop (j := 1) (n.b ≠ 0) (fun R w' h => boolsA_in hhl hah (by first | exact h.2 | exact h.1.2)) (show 1 < 7 by decide) rfl ?_ ?_ <;> intro _) | refine ro_bool (j := 1) (fun R w' h => boolsA_in hml ham (by first | exact h.1.2 | exact h.2)) (show 1 < 7 by decide) ?_ | (refine ro_prop (j := 2) ((n.shape.xs.length : Int) > 0) (fun R w' h => boolsA_in hhl hah (by first | exact h.2 | exact h.1.2)) (show 2 < 7 by decide) rfl ?_ ?_ <;> intro _) | refine ro_bool (j := 2) (fun R w' h => boolsA_in hml ham (by first | exact h.1.2 | exact h.2)) (show 2 < 7 by decide) ?_ | (refine ro_prop (j := 3) (n.lo ≠ 0 ∨ n.hi ≠ 0) (fun R w' h => boolsA_in hhl hah (by first | exact h.2 | exact h.1.2)) (show 3 < 7 by decide) rfl ?_ ?_ <;> intro _) | refine ro_bool (j := 3) (fun R w' h => boolsA_in hml ham (by first | exact h.1.2 | exact h.2)) (show 3 < 7 by decide) ?_ | (refine ro_prop (j := 4) (n.size ≠ 0) (fun R w' h => boolsA_in hhl hah (by first | exact h.2 | exact h.1.2)) (show 4 < 7 by decide) rfl ?_ ?_ <;> intro _) | refine ro_bool (j := 4) (fun R w' h => boolsA_in hml ham (by first | exact h.1.2 | exact h.2)) (show 4 < 7 by decide) ?_ | (refine ro_prop (j := 5) ((n.data.xs.length : Int) > 0) (fun R w' h => boolsA_in hhl hah (by first | exact h.2 | exact h.1.2)) (show 5 < 7 by decide) rfl ?_ ?_ <;> intro _) | refine ro_bool (j := 5) (fun R w' h => boolsA_in hml ham (by first | exact h.1.2 | exact h.2)) (show 5 < 7 by decide) ?_ | (refine ro_prop (j := 6) ((n.bias.xs.length : Int) > 0) (fun R w' h => boolsA_in hhl hah (by first | exact h.2 | exact h.1.2)) (show 6 < 7 by decide) rfl ?_ ?_ <;> intro _) | refine ro_bool (j := 6) (fun R w' h => boolsA_in hml ham (by first | exact h.1.2 | exact h.2)) (show 6 < 7 by decide) ?_ | refine ro_int (j := 0) (fun R w' h => hn.shape.at_ (hbase (by omega)) R w' (by first | exact h.1.1 | exact h.1)) (by omega) ?_)) | (show drawK _ 17 _ _ _ _ _ _; (refine draw_quiet tabOk mixed (by kernel_rfl) ?_)) | (show drawK _ 31 _ _ _ _ _ _; (refine draw_quiet tabOk mixed (by kernel_rfl) ?_)) | (show Wp _ _ _ _ _ _ _; (refine Wp.go tabOk rfl ?_)) | (show @cmpK _ _ _; (first | refine cmp_yes (by omega) ?_ | refine cmp_no (by omega) ?_ | (refine cmp_both ?_ ?_ <;> intro _))) | (show wrapK _ _ _; (refine wrap_i64 (by omega) (by omega) ?_)) | (show leK _ _ _; (refine le_of (by first | exact Nat.le_refl _ | omega) ?_)) | (show roomK _ _ _; (refine room_of (by first | omega | (dsimp only; omega)) ?_)) | (show ltK _ _ _; (refine lt_of (by omega) ?_)) | (show _ ∧ _; (refine ⟨?_, ?_⟩)) | (show keepK _ _ _ _ _; (refine keep_of (by first | exact List.Sublist.refl _ | exact List.Sublist.cons _ (List.Sublist.refl _) | exact List.Sublist.cons _ (List.Sublist.cons _ (List.Sublist.refl _)) | exact List.Sublist.cons _ (List.Sublist.cons _ (List.Sublist.cons _ (List.Sublist.refl _)))) (by first | exact (fun _ _ h => h) | exact (fun _ _ h => h.1) | exact (fun _ _ h => h.1.1)) ?_)) | (show ownK _ _ _ _ _; (refine own_keep ?_))))
  all_goals first
    | (refine Wp.loop (σ := Nat × Int) 1 (fun ⟨k, p⟩ => [(106, .c n.shape.val), (107, .c (.int .i64 n.shape.xs.length)), (108, .c (.int .i64 k)), (8, .c (.int .i64 p)), (2, .lp 0 0 0 0)]) (fun _ => [(0, .box [.c (.int .i64 n.kind), .c (.int .i64 n.a), .c (.int .i64 n.b), .c n.shape.val, .c (.int .i64 n.lo), .c (.int .i64 n.hi), .c (.int .i64 n.size), .c n.data.val, .c n.bias.val] 43)]) (fun _ => ((baseA w).and ((boolsA m).past w.heap.size)).and ((boolsA h).past w.heap.size))
        (fun s => s.1 ≤ 4 ∧ 1 ≤ s.2 ∧ s.2 ≤ 64 ^ s.1 ∧ kerLoop 1 n.shape.xs = kerLoop s.2 (n.shape.xs.drop s.1)) (fun s => 4 - s.1) (0, 1) [] (Nat.le_refl _) (fun s => ⟨rfl, rfl⟩) ⟨by simp, by simp, by simp, rfl⟩ ⟨rfl, ⟨rfl, rfl, rfl, rfl, rfl, trivial⟩, ⟨List.mem_cons_self, trivial⟩, fun _ _ h => h⟩ ?_
       rintro ⟨k, p⟩ ⟨hk4, h1, h64, he⟩
       simp only at hk4 h1 h64 he
       by_cases hlt : k < n.shape.xs.length
       · rw [drop_at hlt] at he
         simp only [kerLoop] at he
         have hb : 1 ≤ n.shape.xs[k] → n.shape.xs[k] ≤ 64 → 1 ≤ p * n.shape.xs[k] ∧ p * n.shape.xs[k] ≤ 64 ^ (k + 1) ∧ p * n.shape.xs[k] ≤ 16777216 := fun g1 g2 => by
           have g3 : p * n.shape.xs[k] ≤ 64 ^ k * 64 := Int.mul_le_mul h64 g2 (by omega) (by omega)
           have g4 : p * 1 ≤ p * n.shape.xs[k] := Int.mul_le_mul_of_nonneg_left g1 (by omega)
           have g5 : (64 : Int) ^ k * 64 = 64 ^ (k + 1) := (Int.pow_succ 64 k).symm
           have g6 : (64 : Int) ^ (k + 1) ≤ 16777216 := by
             have : k = 0 ∨ k = 1 ∨ k = 2 ∨ k = 3 := by omega
             rcases this with rfl | rfl | rfl | rfl <;> decide
           omega
         have hbad : (n.shape.xs[k] < 1 ∨ n.shape.xs[k] > 64) → kernelI n.shape.xs = 0 := fun g => by rw [hK4 (by omega), he, if_pos g]
         (repeat' ((conv => whnf) <;> first | refine idx_of a k (hbase (by omega)) rfl hlt ?_ | (show roK _ _ _; (refine ro_row0 (fun R w' h => hn.shape.at_ (hbase (by omega)) R w' h.1.1) _ _ (ints_get hlt) rfl ?_)) | refine wrap_i64 (by have := hb (by omega) (by omega); omega) (by have := hb (by omega) (by omega); omega) ?_ | (show drawK _ 17 _ _ _ _ _ _; (refine draw_quiet tabOk mixed (by kernel_rfl) ?_)) | (show drawK _ 31 _ _ _ _ _ _; (refine draw_quiet tabOk mixed (by kernel_rfl) ?_)) | (show Wp _ _ _ _ _ _ _; (refine Wp.go tabOk rfl ?_)) | (show @cmpK _ _ _; (first | refine cmp_yes (by omega) ?_ | refine cmp_no (by omega) ?_ | (refine cmp_both ?_ ?_ <;> intro _))) | (show wrapK _ _ _; (refine wrap_i64 (by omega) (by omega) ?_)) | (show leK _ _ _; (refine le_of (by first | exact Nat.le_refl _ | omega) ?_)) | (show roomK _ _ _; (refine room_of (by first | omega | (dsimp only; omega)) ?_)) | (show ltK _ _ _; (refine lt_of (by omega) ?_)) | (show _ ∧ _; (refine ⟨?_, ?_⟩)) | (show keepK _ _ _ _ _; (refine keep_of (by first | exact List.Sublist.refl _ | exact List.Sublist.cons _ (List.Sublist.refl _) | exact List.Sublist.cons _ (List.Sublist.cons _ (List.Sublist.refl _)) | exact List.Sublist.cons _ (List.Sublist.cons _ (List.Sublist.cons _ (List.Sublist.refl _)))) (by first | exact (fun _ _ h => h) | exact (fun _ _ h => h.1) | exact (fun _ _ h => h.1.1)) ?_)) | (show ownK _ _ _ _ _; (refine own_keep ?_))))
         · conv => whnf
           refine ends_bool (B := ⟨w, []⟩) (S := ((baseA w).and ((boolsA m).past w.heap.size)).and ((boolsA h).past w.heap.size)) (fun _ _ h => h.1.1) rfl ?_
           rw [hfb]
           simp only [Bool.and_eq_true, Bool.and_eq_false_iff, decide_eq_true_eq, decide_eq_false_iff_not, reduceCtorEq, and_false, and_true, or_false, false_or]
           omega
         · conv => whnf
           refine ends_bool (B := ⟨w, []⟩) (S := ((baseA w).and ((boolsA m).past w.heap.size)).and ((boolsA h).past w.heap.size)) (fun _ _ h => h.1.1) rfl ?_
           rw [hfb]
           simp only [Bool.and_eq_true, Bool.and_eq_false_iff, decide_eq_true_eq, decide_eq_false_iff_not, reduceCtorEq, and_false, and_true, or_false, false_or]
           omega
         · rw [if_neg (by omega)] at he
           have := hb (by omega) (by omega)
           exact ⟨(k + 1, p * n.shape.xs[k]), [], ⟨by simp only; omega, this.1, this.2.1, he⟩, by simp only; omega, rfl, ⟨rfl, rfl, rfl, rfl, rfl, trivial⟩, ⟨List.mem_cons_self, trivial⟩, fun _ _ h => h⟩
       · have hkl : n.shape.xs.drop k = [] := List.drop_of_length_le (by omega)
         rw [hkl] at he
         have hp : kernelI n.shape.xs = p := by rw [hK4 (by omega), he]; rfl
         (repeat' ((conv => whnf) <;> first | (show idxK _ _ _ _ _; (first | refine idx_of ah 0 hah rfl (by omega) ?_ | refine idx_of am 0 ham rfl (by omega) ?_ | refine idx_of ah 1 hah rfl (by omega) ?_ | refine idx_of am 1 ham rfl (by omega) ?_ | refine idx_of ah 2 hah rfl (by omega) ?_ | refine idx_of am 2 ham rfl (by omega) ?_ | refine idx_of ah 3 hah rfl (by omega) ?_ | refine idx_of am 3 ham rfl (by omega) ?_ | refine idx_of ah 4 hah rfl (by omega) ?_ | refine idx_of am 4 ham rfl (by omega) ?_ | refine idx_of ah 5 hah rfl (by omega) ?_ | refine idx_of am 5 ham rfl (by omega) ?_ | refine idx_of ah 6 hah rfl (by omega) ?_ | refine idx_of am 6 ham rfl (by omega) ?_ | refine idx_of _ 0 (hbase (by omega)) rfl (by omega) ?_)) | (show roK _ _ _; (refine ro_int (j := 0) (fun R w' h => hn.shape.at_ (hbase (by omega)) R w' h.1.1) (by omega) ?_)) | (show drawK _ 17 _ _ _ _ _ _; (refine draw_quiet tabOk mixed (by kernel_rfl) ?_)) | (show drawK _ 31 _ _ _ _ _ _; (refine draw_quiet tabOk mixed (by kernel_rfl) ?_)) | (show Wp _ _ _ _ _ _ _; (refine Wp.go tabOk rfl ?_)) | (show @cmpK _ _ _; (first | refine cmp_yes (by omega) ?_ | refine cmp_no (by omega) ?_ | (refine cmp_both ?_ ?_ <;> intro _))) | (show wrapK _ _ _; (refine wrap_i64 (by omega) (by omega) ?_)) | (show leK _ _ _; (refine le_of (by first | exact Nat.le_refl _ | omega) ?_)) | (show roomK _ _ _; (refine room_of (by first | omega | (dsimp only; omega)) ?_)) | (show ltK _ _ _; (refine lt_of (by omega) ?_)) | (show _ ∧ _; (refine ⟨?_, ?_⟩)) | (show keepK _ _ _ _ _; (refine keep_of (by first | exact List.Sublist.refl _ | exact List.Sublist.cons _ (List.Sublist.refl _) | exact List.Sublist.cons _ (List.Sublist.cons _ (List.Sublist.refl _)) | exact List.Sublist.cons _ (List.Sublist.cons _ (List.Sublist.cons _ (List.Sublist.refl _)))) (by first | exact (fun _ _ h => h) | exact (fun _ _ h => h.1) | exact (fun _ _ h => h.1.1)) ?_)) | (show ownK _ _ _ _ _; (refine own_keep ?_))))
         all_goals (conv => whnf)
         all_goals refine ends_bool (B := ⟨w, []⟩) (S := ((baseA w).and ((boolsA m).past w.heap.size)).and ((boolsA h).past w.heap.size)) (fun _ _ h => h.1.1) rfl ?_
         all_goals rw [hfb]
         all_goals simp only [Bool.and_eq_true, Bool.and_eq_false_iff, decide_eq_true_eq, decide_eq_false_iff_not, reduceCtorEq, and_false, and_true, or_false, false_or]
         all_goals omega)
    | (conv => whnf
       refine ends_bool (B := ⟨w, []⟩) (S := ((baseA w).and ((boolsA m).past w.heap.size)).and ((boolsA h).past w.heap.size)) (fun _ _ h => h.1.1) rfl ?_
       rw [hfb]
       simp only [Bool.and_eq_true, Bool.and_eq_false_iff, decide_eq_true_eq, decide_eq_false_iff_not, reduceCtorEq, and_false, and_true, or_false, false_or]
       first | omega | (simp; omega))
theorem refForm_none (w : World) (n : NodeV) (at_ : Int) (hm : mayL n.kind = none) :
    Calls Try.prog 46 #[.agg n.cells.toArray, .int .i64 at_] w fun e w' => e = .returned (.bool (formB n at_)) ∧ Ext w w' := by
  have hfb : formB n at_ = false := by
    unfold mayL at hm
    unfold formB
    have h1 : n.kind ≠ 1 := fun h => by rw [if_pos h] at hm; cases hm
    rw [if_neg h1] at hm
    have h2 : n.kind ≠ 2 := fun h => by rw [if_pos h] at hm; cases hm
    rw [if_neg h2] at hm
    have h3 : n.kind ≠ 3 := fun h => by rw [if_pos h] at hm; cases hm
    rw [if_neg h3] at hm
    have h4 : n.kind ≠ 4 := fun h => by rw [if_pos h] at hm; cases hm
    rw [if_neg h4] at hm
    have h5 : n.kind ≠ 5 := fun h => by rw [if_pos h] at hm; cases hm
    rw [if_neg h5] at hm
    have h6 : n.kind ≠ 6 := fun h => by rw [if_pos h] at hm; cases hm
    rw [if_neg h6] at hm
    have h7 : n.kind ≠ 7 := fun h => by rw [if_pos h] at hm; cases hm
    rw [if_neg h7] at hm
    have h8 : n.kind ≠ 8 := fun h => by rw [if_pos h] at hm; cases hm
    rw [if_neg h8] at hm
    have h9 : n.kind ≠ 9 := fun h => by rw [if_pos h] at hm; cases hm
    rw [if_neg h1, if_neg h2, if_neg h3, if_neg h4, if_neg h5, if_neg h6, if_neg h7, if_neg h8, if_neg h9]
  refine calls_of tab tabOk Try.func46 rfl rfl rfl [] (fun _ => ⟨none, 0⟩) [.agg [.c (.int .i64 n.kind), .c (.int .i64 n.a), .c (.int .i64 n.b), .c n.shape.val, .c (.int .i64 n.lo), .c (.int .i64 n.hi), .c (.int .i64 n.size), .c n.data.val, .c n.bias.val], .c (.int .i64 at_)] [] (baseA w) 0 rfl rfl (by show 2 ≤ _; decide) (abs_base w) ?_
  (repeat' ((conv => whnf) <;> first | (show callK _ 92 _ _ _ _ _; (refine call_pure (f := 92) Try.call92 _ (fun ρ w' hw => may_none w' n.kind hm) ?_)) | (show pureK _ _ _; (refine slice_nil_yes (ti 87 rfl) rfl ?_)) | (show drawK _ 17 _ _ _ _ _ _; (refine draw_quiet tabOk mixed (by kernel_rfl) ?_)) | (show drawK _ 31 _ _ _ _ _ _; (refine draw_quiet tabOk mixed (by kernel_rfl) ?_)) | (show Wp _ _ _ _ _ _ _; (refine Wp.go tabOk rfl ?_)) | (show @cmpK _ _ _; (first | refine cmp_yes (by omega) ?_ | refine cmp_no (by omega) ?_ | (refine cmp_both ?_ ?_ <;> intro _))) | (show wrapK _ _ _; (refine wrap_i64 (by omega) (by omega) ?_)) | (show leK _ _ _; (refine le_of (by first | exact Nat.le_refl _ | omega) ?_)) | (show roomK _ _ _; (refine room_of (by first | omega | (dsimp only; omega)) ?_)) | (show ltK _ _ _; (refine lt_of (by omega) ?_)) | (show _ ∧ _; (refine ⟨?_, ?_⟩)) | (show keepK _ _ _ _ _; (refine keep_of (by first | exact List.Sublist.refl _ | exact List.Sublist.cons _ (List.Sublist.refl _) | exact List.Sublist.cons _ (List.Sublist.cons _ (List.Sublist.refl _)) | exact List.Sublist.cons _ (List.Sublist.cons _ (List.Sublist.cons _ (List.Sublist.refl _)))) (by first | exact (fun _ _ h => h) | exact (fun _ _ h => h.1) | exact (fun _ _ h => h.1.1)) ?_)) | (show ownK _ _ _ _ _; (refine own_keep ?_))))
  exact ends_bool (fun _ _ h => h) rfl hfb
theorem refForm_any (w : World) (n : NodeV) (hn : n.ok w) (at_ : Int) :
    Calls Try.prog 46 #[.agg n.cells.toArray, .int .i64 at_] w fun e w' => e = .returned (.bool (formB n at_)) ∧ Ext w w' := by
  by_cases h1 : n.kind = 1
  · exact refForm_1 w n hn at_ h1
  by_cases h2 : n.kind = 2
  · exact refForm_2 w n hn at_ h2
  by_cases h3 : n.kind = 3
  · exact refForm_3 w n hn at_ h3
  by_cases h4 : n.kind = 4
  · exact refForm_4 w n hn at_ h4
  by_cases h5 : n.kind = 5
  · exact refForm_5 w n hn at_ h5
  by_cases h6 : n.kind = 6
  · exact refForm_6 w n hn at_ h6
  by_cases h7 : n.kind = 7
  · exact refForm_7 w n hn at_ h7
  by_cases h8 : n.kind = 8
  · exact refForm_8 w n hn at_ h8
  by_cases h9 : n.kind = 9
  · exact refForm_9 w n hn at_ h9
  · exact refForm_none w n at_ (by unfold mayL; simp only [h1, h2, h3, h4, h5, h6, h7, h8, h9, if_false])
end Go.Proofs.Ytajbngkcgbehlaa
