import Derived.Test.YtajbngkcgbehlaaGD
namespace Go.Proofs.Ytajbngkcgbehlaa
open Go.SX
theorem ints_base {w : World} {v : IntsV} (h : v.ok w) : ∃ a, 0 < v.xs.length → v.base = some a := by
  by_cases hl : 0 < v.xs.length
  · obtain ⟨a, ha⟩ := h.base hl; exact ⟨a, fun _ => ha⟩
  · exact ⟨⟨0, 0, none⟩, fun h => absurd h hl⟩
theorem ints_getD {xs : List Int} {k : Nat} (h : k < xs.length) : (ints xs)[k]? = some [.int .i64 (xs.getD k 0)] := by rw [ints_get h]; simp [List.getD, h]
theorem kernel_len {xs : List Int} (h : kernelI xs > 0) : xs.length = 4 := by
  unfold kernelI at h
  by_cases h4 : xs.length = 4
  · exact h4
  · rw [if_neg h4] at h; omega
def formB (n : NodeV) (at_ : Int) : Bool :=
  if n.kind = 1 then lacksB n false false true true false false false && decide (entries n.shape.xs > 0)
  else if n.kind = 2 then lacksB n false false true false false true false && decide (entries n.shape.xs > 0) && decide ((n.data.xs.length : Int) = entries n.shape.xs)
  else if n.kind = 3 then lacksB n true false false false false true true && aheadB n.a at_ && decide (n.bias.xs.length > 0) && decide (n.bias.xs.length ≤ 64)
  else if n.kind = 4 then lacksB n true false true false false true true && aheadB n.a at_ && decide (kernelI n.shape.xs > 0) && decide ((n.data.xs.length : Int) = kernelI n.shape.xs) && decide ((n.bias.xs.length : Int) = n.shape.xs.getD 0 0)
  else if n.kind = 5 then lacksB n true false false false true false false && aheadB n.a at_ && decide (n.size > 0)
  else if n.kind = 6 then lacksB n true true false false false false false && aheadB n.a at_ && aheadB n.b at_
  else if n.kind = 7 then lacksB n true false false false false true false && aheadB n.a at_ && decide (n.data.xs.length = 1)
  else if n.kind = 8 then lacksB n true false false false false true false && aheadB n.a at_ && decide (n.data.xs.length = 3)
  else if n.kind = 9 then lacksB n true false true false false false false && aheadB n.a at_ && decide (entries n.shape.xs > 0)
  else false

set_option maxRecDepth 20000 in
set_option maxHeartbeats 4000000 in
theorem form_any (w : World) (n : NodeV) (hn : n.ok w) (at_ : Int) (sv : Value) :
    Calls Try.prog 42 #[nodeVal n at_ sv] w fun e w' => e = .returned (.bool (formB n at_)) ∧ Ext w w' := by
  obtain ⟨a, hbase⟩ := ints_base hn.shape
  have hkl := @kernel_len n.shape.xs
  refine calls_of tab tabOk Try.func42 rfl rfl rfl [] (fun _ => ⟨none, 0⟩) [.agg [.c (.int .i64 n.kind), .c (.int .i64 n.a), .c (.int .i64 n.b), .c n.shape.val, .c (.int .i64 n.lo), .c (.int .i64 n.hi), .c (.int .i64 n.size), .c n.data.val, .c n.bias.val, .c (.int .i64 at_), .c sv]] [] (baseA w) 0 rfl rfl (by show 1 ≤ _; decide) (abs_base w) ?_
  (repeat' ((conv => whnf) <;> first | (show callK _ 20 _ _ _ _ _; (refine call_pure (f := 20) Try.call20 _ (fun ρ w' hw => entries_any w' n.shape.base n.shape.cap n.shape.xs (holds_of_abs hw fun R h => rows_base h hn.shape.rows)) ?_)) | (show callK _ 82 _ _ _ _ _; ((refine call_bool (f := 82) Try.call82 _ (fun ρ w' hw => lacks_any w' n at_ sv _ _ _ _ _ _ _ rfl) ?_ ?_ <;> intro hl))) | (show callK _ 83 _ _ _ _ _; ((refine call_bool (f := 83) Try.call83 _ (fun ρ w' hw => ahead_any w' n at_ sv _) ?_ ?_ <;> intro ha))) | (show callK _ 84 _ _ _ _ _; (refine call_pure (f := 84) Try.call84 _ (fun ρ w' hw => kernel_any w' n (holds_of_abs hw fun R h => hn.shape.later h) at_ sv) ?_)) | (show callQ _ 82 _ _ _ _ _; ((refine callQ_bool (f := 82) Try.call82 _ (fun ρ w' hw => lacks_any w' n at_ sv _ _ _ _ _ _ _ rfl) ?_ ?_ <;> intro hl))) | (show callQ _ 83 _ _ _ _ _; ((refine callQ_bool (f := 83) Try.call83 _ (fun ρ w' hw => ahead_any w' n at_ sv _) ?_ ?_ <;> intro ha))) | (show idxK _ _ _ _ _; (refine idx_of a 0 (hbase (by omega)) rfl (by omega) ?_)) | (show roK _ _ _; (refine ro_row0 (fun R w' h => by rw [← hbase (by omega)]; exact rows_base h hn.shape.rows) _ _ (ints_getD (by omega)) rfl ?_)) | (show drawK _ 11 _ _ _ _ _ _; (refine draw_quiet tabOk mixed (by kernel_rfl) ?_)) | (show Wp _ _ _ _ _ _ _; (refine Wp.go tabOk rfl ?_)) | (show @cmpK _ _ _; (first | refine cmp_yes (by omega) ?_ | refine cmp_no (by omega) ?_ | (refine cmp_both ?_ ?_ <;> intro _))) | (show wrapK _ _ _; (refine wrap_i64 (by omega) (by omega) ?_)) | (show leK _ _ _; (refine le_of (by first | exact Nat.le_refl _ | omega) ?_)) | (show roomK _ _ _; (refine room_of (by first | omega | (dsimp only; omega)) ?_)) | (show ltK _ _ _; (refine lt_of (by omega) ?_)) | (show _ ∧ _; (refine ⟨?_, ?_⟩)) | (show keepK _ _ _ _ _; (refine keep_of (by first | exact List.Sublist.refl _ | exact List.Sublist.cons _ (List.Sublist.refl _) | exact List.Sublist.cons _ (List.Sublist.cons _ (List.Sublist.refl _)) | exact List.Sublist.cons _ (List.Sublist.cons _ (List.Sublist.cons _ (List.Sublist.refl _)))) (by first | exact (fun _ _ h => h) | exact (fun _ _ h => h.1) | exact (fun _ _ h => h.1.1)) ?_)) | (show ownK _ _ _ _ _; (refine own_keep ?_))))
  all_goals refine ends_bool (fun _ _ h => h) rfl ?_
  all_goals (unfold formB; repeat (first | rw [if_pos (by omega)] | rw [if_neg (by omega)]))
  all_goals simp only [*, Bool.true_and, Bool.false_and, Bool.and_false, Bool.and_true, Bool.and_eq_true, Bool.and_eq_false_iff, decide_eq_true_eq, decide_eq_false_iff_not]
  all_goals first | omega | simp | (simp; omega)
end Go.Proofs.Ytajbngkcgbehlaa
