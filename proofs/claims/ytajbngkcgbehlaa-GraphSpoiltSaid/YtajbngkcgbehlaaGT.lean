import Derived.Test.YtajbngkcgbehlaaGS
namespace Go.Proofs.Ytajbngkcgbehlaa
open Go.SX Go.ChangeShapes Go.WideShapes Go.ChangeAt Go.RowKit
/-- a field's cells: a number, or numbers -/
def FieldQ (w : World) (f : Field) (cs : List Value) : Prop :=
  (f.type = 3 → ∃ i, (Lit.int .i64 i).wf = true ∧ cs = [.int .i64 i]) ∧ (f.type = 32 → ∃ u : IntsV, cs = [u.val] ∧ u.raw w)
theorem list9 {cs : List Value} (h : cs.length = 9) : ∃ a b c d e f g i j, cs = [a, b, c, d, e, f, g, i, j] := by
  match cs, h with
  | [a, b, c, d, e, f, g, i, j], _ => exact ⟨a, b, c, d, e, f, g, i, j, rfl⟩
theorem list2 {cs : List Value} (h : cs.length = 2) : ∃ a b, cs = [a, b] := by
  match cs, h with
  | [a, b], _ => exact ⟨a, b, rfl⟩
theorem c_int : Try.prog.cellsOf 3 = 1 := by kernel_rfl
theorem c_ints : Try.prog.cellsOf 32 = 1 := by kernel_rfl
theorem opens_node (w : World) : Opens Try.prog w 43 fun cs => ∃ n : NodeV, cs = n.cells ∧ n.raw w := by
  have h := opens_struct (P := Try.prog) (w := w) (k := 9) (Q := FieldQ w) Try.underlying43 (by kernel_rfl) (by
    intro f hf
    have hi : ∀ t, t = 3 → Opens Try.prog w t fun cs => (t = 3 → ∃ i, (Lit.int .i64 i).wf = true ∧ cs = [.int .i64 i]) ∧ (t = 32 → ∃ u : IntsV, cs = [u.val] ∧ u.raw w) := by
      rintro t rfl
      exact Opens.mono (opens_int Try.underlying3) fun cs hc => ⟨fun _ => hc, fun h => (by cases h)⟩
    have hs : ∀ t, t = 32 → Opens Try.prog w t fun cs => (t = 3 → ∃ i, (Lit.int .i64 i).wf = true ∧ cs = [.int .i64 i]) ∧ (t = 32 → ∃ u : IntsV, cs = [u.val] ∧ u.raw w) := by
      rintro t rfl
      exact Opens.mono (opens_intsV w) fun cs hc => ⟨fun h => (by cases h), fun _ => hc⟩
    simp only [List.mem_toArray, List.mem_cons, List.not_mem_nil, or_false] at hf
    rcases hf with rfl | rfl | rfl | rfl | rfl | rfl | rfl | rfl | rfl
    all_goals first | (refine Opens.mono (Q' := FieldQ w _) (hi _ rfl) ?_; intro cs h; exact h) | (refine Opens.mono (Q' := FieldQ w _) (hs _ rfl) ?_; intro cs h; exact h))
  refine Opens.mono h ?_
  rintro cs ⟨hl, hf⟩
  obtain ⟨a, b, c, d, e, f, g, i, j, rfl⟩ := list9 hl
  simp only [List.mem_toArray, List.mem_cons, List.not_mem_nil, or_false, forall_eq_or_imp, forall_eq, FieldQ, c_int, c_ints, List.drop_zero, List.drop_succ_cons, List.take_succ_cons, List.take_zero, forall_const, true_and, and_true, reduceCtorEq, Nat.reduceEqDiff, false_implies] at hf
  obtain ⟨⟨x1, w1, e1⟩, ⟨x2, w2, e2⟩, ⟨x3, w3, e3⟩, ⟨x4, e4, w4⟩, ⟨x5, w5, e5⟩, ⟨x6, w6, e6⟩, ⟨x7, w7, e7⟩, ⟨x8, e8, w8⟩, ⟨x9, e9, w9⟩⟩ := hf
  simp only [List.cons.injEq, and_true] at e1 e2 e3 e4 e5 e6 e7 e8 e9
  subst e1 e2 e3 e4 e5 e6 e7 e8 e9
  exact ⟨⟨x1, x2, x3, x4, x5, x6, x7, x8, x9⟩, rfl, w4, w8, w9, wf_i64' w1, wf_i64' w2, wf_i64' w3, wf_i64' w5, wf_i64' w6, wf_i64' w7⟩

theorem opens_graph (w : World) : Opens Try.prog w 24 fun cs => ∃ g : GraphV, cs = [.slice g.base g.l.length g.cap, .int .i64 g.out] ∧ g.raw w := by
  have hns := opens_slice (P := Try.prog) (w := w) (k := 9) Try.underlying22 (by kernel_rfl) (opens_node w)
  have h := opens_struct (P := Try.prog) (w := w) (k := 2) (Q := fun f cs => (f.type = 3 → ∃ i, (Lit.int .i64 i).wf = true ∧ cs = [.int .i64 i]) ∧ (f.type = 22 → SliceQ w 9 (fun cs => ∃ n : NodeV, cs = n.cells ∧ n.raw w) cs)) Try.underlying24 (by kernel_rfl) (by
    intro f hf
    simp only [List.mem_toArray, List.mem_cons, List.not_mem_nil, or_false] at hf
    rcases hf with rfl | rfl
    · exact Opens.mono hns fun cs hc => ⟨fun h => (by cases h), fun _ => hc⟩
    · exact Opens.mono (opens_int Try.underlying3) fun cs hc => ⟨fun _ => hc, fun h => (by cases h)⟩)
  refine Opens.mono h ?_
  rintro cs ⟨hl, hf⟩
  obtain ⟨a, b, rfl⟩ := list2 hl
  have c_nodes : Try.prog.cellsOf 22 = 1 := by kernel_rfl
  simp only [List.mem_toArray, List.mem_cons, List.not_mem_nil, or_false, forall_eq_or_imp, forall_eq, c_int, c_nodes, List.drop_zero, List.drop_succ_cons, List.take_succ_cons, List.take_zero, forall_const, true_and, and_true, reduceCtorEq, Nat.reduceEqDiff, false_implies] at hf
  obtain ⟨⟨base, cap, xs, e1, hr, hx, _⟩, x2, w2, e2⟩ := hf
  obtain ⟨l, rfl, hall⟩ := list_map_of (f := NodeV.cells) (p := fun n => n.raw w) fun r hr => by obtain ⟨n, hn, hn'⟩ := (hx r hr).2; exact ⟨n, hn', hn⟩
  simp only [List.cons.injEq, and_true] at e1 e2
  subst e1 e2
  exact ⟨⟨base, cap, l, x2⟩, by simp, hr, hall, wf_i64' w2⟩
theorem lawChecks_any (w : World) (g : GraphV) (hg : g.raw w) : Calls Try.prog 3 #[g.val] w fun e w' => e = .returned (.bool true) ∧ Ext w w' := by
  by_cases er : (check g).1 = 0
  · refine calls_of tab tabOk Try.func3 rfl rfl rfl [] (fun _ => ⟨none, 0⟩) [.agg [.c (.slice g.base g.l.length g.cap), .c (.int .i64 g.out)]] [] (baseA w) 0 rfl rfl (by show 1 ≤ _; decide) (abs_base w) ?_
    (repeat' ((conv => whnf) <;> first | (show callK _ 15 _ _ _ _ _; (refine call_pure (f := 15) Try.call15 (.bool true) (fun ρ w' hw => fixed_any w') ?_)) | (show callK _ 16 _ _ _ _ _; ((refine call_bool (f := 16) Try.call16 _ (fun ρ w' hw => few_any w' g (holds_of_abs hw fun R h => hg.later h)) ?_ ?_ <;> intro hf))) | (show callK _ 17 _ _ _ _ _; (refine call_check (f := 17) (check g) Try.call17 (fun ρ w' hw => check_any w' g (holds_of_abs hw fun R h => (raw_ok hg hf).later h)) (fun h => absurd er h) (fun _ sv hm hs => ?_))) | (show callK _ 18 _ _ _ _ _; (refine call_check (f := 18) (check g) Try.call18 (fun ρ w' hw => refCheck_any w' g (holds_of_abs hw fun R h => (raw_ok hg hf).later h.1)) (fun h => absurd er h) (fun _ tv hm2 hs2 => ?_))) | (show @cmpK _ _ _; (refine cmp_yes rfl ?_)) | (show callK _ 19 _ _ _ _ _; (refine call_pure (f := 19) Try.call19 (.bool true) (fun ρ w' hw => sameShapes_any w' sv tv (holds_of_abs hw fun R h => shapesD_ok er hm hs h.1.2) (holds_of_abs hw fun R h => shapesD_ok er hm2 hs2 h.2) (hm.trans hm2.symm)) ?_)) | (show Wp _ _ _ _ _ _ _; (refine Wp.go tabOk rfl ?_)) | (show @cmpK _ _ _; (first | refine cmp_yes (by omega) ?_ | refine cmp_no (by omega) ?_ | (refine cmp_both ?_ ?_ <;> intro _))) | (show wrapK _ _ _; (refine wrap_i64 (by omega) (by omega) ?_)) | (show leK _ _ _; (refine le_of (by first | exact Nat.le_refl _ | omega) ?_)) | (show roomK _ _ _; (refine room_of (by first | omega | (dsimp only; omega)) ?_)) | (show ltK _ _ _; (refine lt_of (by omega) ?_)) | (show _ ∧ _; (refine ⟨?_, ?_⟩)) | (show keepK _ _ _ _ _; (refine keep_of (by first | exact List.Sublist.refl _ | exact List.Sublist.cons _ (List.Sublist.refl _) | exact List.Sublist.cons _ (List.Sublist.cons _ (List.Sublist.refl _)) | exact List.Sublist.cons _ (List.Sublist.cons _ (List.Sublist.cons _ (List.Sublist.refl _)))) (by first | exact (fun _ _ h => h) | exact (fun _ _ h => h.1) | exact (fun _ _ h => h.1.1)) ?_)) | (show ownK _ _ _ _ _; (refine own_keep ?_))))
    all_goals (conv => whnf)
    · exact ends_bool (B := ⟨w, []⟩) (S := ((baseA w).and ((shapesD sv).past w.heap.size)).and ((shapesD tv).past w.heap.size)) (fun R w' h => h.1.1) rfl rfl
    · exact ends_bool (fun R w' h => h) rfl rfl
  · refine calls_of tab tabOk Try.func3 rfl rfl rfl [] (fun _ => ⟨none, 0⟩) [.agg [.c (.slice g.base g.l.length g.cap), .c (.int .i64 g.out)]] [] (baseA w) 0 rfl rfl (by show 1 ≤ _; decide) (abs_base w) ?_
    (repeat' ((conv => whnf) <;> first | (show callK _ 15 _ _ _ _ _; (refine call_pure (f := 15) Try.call15 (.bool true) (fun ρ w' hw => fixed_any w') ?_)) | (show callK _ 16 _ _ _ _ _; ((refine call_bool (f := 16) Try.call16 _ (fun ρ w' hw => few_any w' g (holds_of_abs hw fun R h => hg.later h)) ?_ ?_ <;> intro hf))) | (show callK _ 17 _ _ _ _ _; (refine call_check (f := 17) (check g) Try.call17 (fun ρ w' hw => check_any w' g (holds_of_abs hw fun R h => (raw_ok hg hf).later h)) (fun _ => ?_) (fun h => absurd h er))) | (show callK _ 18 _ _ _ _ _; (refine call_check (f := 18) (check g) Try.call18 (fun ρ w' hw => refCheck_any w' g (holds_of_abs hw fun R h => (raw_ok hg hf).later h)) (fun _ => ?_) (fun h => absurd h er))) | (show @cmpK _ _ _; (refine cmp_yes rfl ?_)) | (show callK _ 19 _ _ _ _ _; (refine call_pure (f := 19) Try.call19 (.bool true) (fun ρ w' hw => sameShapes_any w' ⟨none, 0, []⟩ ⟨none, 0, []⟩ ⟨.inl rfl, by simp, by simp⟩ ⟨.inl rfl, by simp, by simp⟩ rfl) ?_)) | (show Wp _ _ _ _ _ _ _; (refine Wp.go tabOk rfl ?_)) | (show @cmpK _ _ _; (first | refine cmp_yes (by omega) ?_ | refine cmp_no (by omega) ?_ | (refine cmp_both ?_ ?_ <;> intro _))) | (show wrapK _ _ _; (refine wrap_i64 (by omega) (by omega) ?_)) | (show leK _ _ _; (refine le_of (by first | exact Nat.le_refl _ | omega) ?_)) | (show roomK _ _ _; (refine room_of (by first | omega | (dsimp only; omega)) ?_)) | (show ltK _ _ _; (refine lt_of (by omega) ?_)) | (show _ ∧ _; (refine ⟨?_, ?_⟩)) | (show keepK _ _ _ _ _; (refine keep_of (by first | exact List.Sublist.refl _ | exact List.Sublist.cons _ (List.Sublist.refl _) | exact List.Sublist.cons _ (List.Sublist.cons _ (List.Sublist.refl _)) | exact List.Sublist.cons _ (List.Sublist.cons _ (List.Sublist.cons _ (List.Sublist.refl _)))) (by first | exact (fun _ _ h => h) | exact (fun _ _ h => h.1) | exact (fun _ _ h => h.1.1)) ?_)) | (show ownK _ _ _ _ _; (refine own_keep ?_))))
    all_goals exact ends_bool (fun R w' h => h) rfl rfl
set_option maxRecDepth 100000 in
theorem checks_lifted (os : Os) (started : os.Started) (H : Type) (enc : TypeId × Value → H) :
    ReturnsInHanded {} Try.checked os 3 .any (Rows.graphChecksSpec.pre6 enc Try.prog Try.f3 Rows.graphChecksRow.domain false) (Rows.graphChecksSpec.post enc Try.prog Try.f3 false true false false) := by
  refine returnsInHanded_of_change (C := Try.checked) own started (by kernel_rfl) Try.func3
    (ChangeSpec.witness6 (enc := enc) (C := Try.checked) false ⟨#[], #[.agg #[.slice none 0 0, .int .i64 0]], []⟩ 8 (by kernel_rfl) (by kernel_rfl) (by kernel_rfl) (by kernel_rfl)) ?_
  intro W base args ds gs before hval0 hW hcnd _
  have hval : ∀ (j : Nat) t v, Try.f3.params[j]? = some t → args[j]? = some v → Value.okWide Try.prog W .any base t v := hval0
  have hW' := hW
  obtain ⟨p, q, hA0, hV, rfl, hfz, hnd⟩ := hW
  have hA : DataW.TrodAll enc Try.prog W 0 (fun _ => true) true Try.f3.params.toList args.toList ds p := hA0
  rw [Try.params3] at hA hval
  obtain ⟨v0, d0, rfl, rfl, h0⟩ := trodAll_one hA
  obtain ⟨g, hv0, hg⟩ := opens_of (opens_graph W) h0
  obtain rfl : v0 = g.val := cells_agg Try.underlying24 (hval 0 24 v0 rfl rfl) hv0
  exact law_contract laidOut (by kernel_rfl) rfl rfl Try.underlying4 rfl hW' (lawChecks_any W g hg)
/-- GraphChecks: for every graph the law returns true, and the graph reads as before; no condition. -/
theorem graphChecks_holds : Rows.GraphChecksSaid :=
  OpenClaim.holds_of_wide 3 Try.f3 rfl rfl rfl rfl rfl rfl rfl ⟨rfl, rfl, rfl, rfl, rfl⟩ rfl rfl rfl rfl rfl (by kernel_rfl) Try.func3 (by kernel_rfl)
    (of_decide_eq_true (by kernel_rfl)) (by unfold Func.isWrapper; first | (rw [if_pos (by decide +kernel)]; kernel_rfl) | (rw [if_neg (by decide +kernel)]; exact ⟨rfl, rfl⟩))
    (fun os started H enc _ => checks_lifted os started H enc)
end Go.Proofs.Ytajbngkcgbehlaa
