import Derived.Test.YtajbngkcgbehlaaSH
import Derived.Test.YtajbngkcgbehlaaRows
namespace Go.Proofs.Ytajbngkcgbehlaa
open Go.SX Go.ChangeShapes Go.WideShapes Go.ChangeAt Go.RowKit
theorem ownS : ownKnob Try.prog.godebug = none := by kernel_rfl
theorem laidOutS : laidOutB Try.prog = true := by kernel_rfl
theorem wf_back {x : Int} (h : (Lit.int .i64 x).wf = true) : -9223372036854775808 ≤ x ∧ x ≤ 9223372036854775807 := by
  simp [Lit.wf, IntKind.min, IntKind.max, IntKind.signed, IntKind.bits] at h
  omega
theorem opens_ofS {H : Type} {enc : TypeId × Value → H} {P : Program} {w : World} {t : TypeId} {Q : List Value → Prop} {base : Nat} {sp : Nat → Bool} {held : Bool} {v : Value} {d : DataW H} {ps : List MemPlace} (h : Opens P w t Q) (ht : DataW.Trod enc P w base sp held t v d ps) : Q v.cells.toList := by
  obtain ⟨n, hn⟩ := ht
  exact h.out enc base sp held n _ _ hn
theorem list5 {cs : List Value} (h : cs.length = 5) : ∃ a b c d e, cs = [a, b, c, d, e] := by
  match cs, h with
  | [a, b, c, d, e], _ => exact ⟨a, b, c, d, e, rfl⟩
def OptQ (f : Field) (cs : List Value) : Prop := (f.type = 3 → ∃ i, (Lit.int .i64 i).wf = true ∧ cs = [.int .i64 i]) ∧ (f.type = 4 → ∃ b, cs = [.bool b])
theorem opens_opt (w : World) : Opens Try.prog w 46 fun cs => ∃ o : OptV, o.fits ∧ cs = o.cells := by
  have h := opens_struct (P := Try.prog) (w := w) (k := 5) (Q := OptQ) Try.underlying46 (by kernel_rfl) (by
    intro f hf
    have hi : ∀ t, t = 3 → Opens Try.prog w t fun cs => (t = 3 → ∃ i, (Lit.int .i64 i).wf = true ∧ cs = [.int .i64 i]) ∧ (t = 4 → ∃ b, cs = [.bool b]) := by
      rintro t rfl
      exact Opens.mono (opens_int Try.underlying3) fun cs hc => ⟨fun _ => hc, fun h => (by cases h)⟩
    have hs : ∀ t, t = 4 → Opens Try.prog w t fun cs => (t = 3 → ∃ i, (Lit.int .i64 i).wf = true ∧ cs = [.int .i64 i]) ∧ (t = 4 → ∃ b, cs = [.bool b]) := by
      rintro t rfl
      exact Opens.mono (opens_bool Try.underlying4) fun cs hc => ⟨fun h => (by cases h), fun _ => hc⟩
    simp only [List.mem_toArray, List.mem_cons, List.not_mem_nil, or_false] at hf
    rcases hf with rfl | rfl | rfl | rfl | rfl
    all_goals first | (refine Opens.mono (Q' := OptQ _) (hi _ rfl) ?_; intro cs h; exact h) | (refine Opens.mono (Q' := OptQ _) (hs _ rfl) ?_; intro cs h; exact h))
  refine Opens.mono h ?_
  rintro cs ⟨hl, hf⟩
  obtain ⟨a, b, c, d, e, rfl⟩ := list5 hl
  simp only [List.mem_toArray, List.mem_cons, List.not_mem_nil, or_false, forall_eq_or_imp, forall_eq, OptQ, c_int', c_bool, List.drop_zero, List.drop_succ_cons, List.take_succ_cons, List.take_zero, forall_const, true_and, and_true, reduceCtorEq, Nat.reduceEqDiff, false_implies] at hf
  obtain ⟨⟨x1, w1, e1⟩, ⟨x2, e2⟩, ⟨x3, e3⟩, ⟨x4, e4⟩, ⟨x5, w5, e5⟩⟩ := hf
  simp only [List.cons.injEq, and_true] at e1 e2 e3 e4 e5
  subst e1 e2 e3 e4 e5
  exact ⟨⟨x1, x2, x3, x4, x5⟩, ⟨wf_back w1, wf_back w5⟩, rfl⟩
set_option maxRecDepth 100000 in
theorem options_lifted (os : Os) (started : os.Started) (H : Type) (enc : TypeId × Value → H) :
    ReturnsInHanded {} Try.checked os 7 .any (Rows.scrollOptionsSpec.pre6 enc Try.prog Try.f7 Rows.scrollOptionsRow.domain false) (Rows.scrollOptionsSpec.post enc Try.prog Try.f7 false true false false) := by
  refine returnsInHanded_of_change (C := Try.checked) ownS started (by kernel_rfl) Try.func7
    (ChangeSpec.witness6 (enc := enc) (C := Try.checked) false ⟨#[], #[.agg #[.int .i64 0, .bool false, .bool false, .bool false, .int .i64 0]], []⟩ 8 (by kernel_rfl) (by kernel_rfl) (by kernel_rfl) (by kernel_rfl)) ?_
  intro W base args ds gs before hval0 hW hcnd _
  have hval : ∀ (j : Nat) t v, Try.f7.params[j]? = some t → args[j]? = some v → Value.okWide Try.prog W .any base t v := hval0
  have hW' := hW
  obtain ⟨p, q, hA0, hV, rfl, hfz, hnd⟩ := hW
  have hA : DataW.TrodAll enc Try.prog W 0 (fun _ => true) true Try.f7.params.toList args.toList ds p := hA0
  rw [Try.params7] at hA hval
  obtain ⟨v0, d0, rfl, rfl, h0⟩ := trodAll_one hA
  obtain ⟨o, ho, hv0⟩ := opens_ofS (opens_opt W) h0
  obtain rfl : v0 = o.val := cells_agg Try.underlying46 (hval 0 46 v0 rfl rfl) hv0
  exact law_contract laidOutS (by kernel_rfl) rfl rfl Try.underlying4 rfl hW' (lawOptions_any W o ho)
/-- ScrollOptions: for all options the law returns true, and they read as before; no condition. -/
theorem scrollOptions_holds : Rows.ScrollOptionsSaid :=
  OpenClaim.holds_of_wide 7 Try.f7 rfl rfl rfl rfl rfl rfl rfl ⟨rfl, rfl, rfl, rfl, rfl⟩ rfl rfl rfl rfl rfl (by kernel_rfl) Try.func7 (by kernel_rfl)
    (of_decide_eq_true (by kernel_rfl)) (by unfold Func.isWrapper; first | (rw [if_pos (by decide +kernel)]; kernel_rfl) | (rw [if_neg (by decide +kernel)]; exact ⟨rfl, rfl⟩))
    (fun os started H enc _ => options_lifted os started H enc)
end Go.Proofs.Ytajbngkcgbehlaa
