import Derived.Test.YtajbngkcgbehlaaKIntervalSpans10
/- JU -/
namespace Go.Proofs.Ytajbngkcgbehlaa
open Go.SX Go.ChangeShapes Go.WideShapes Go.ChangeAt Go.RowKit
set_option maxRecDepth 100000 in
theorem ispans_lifted (os : Os) (started : os.Started) (H : Type) (enc : TypeId × Value → H) :
    ReturnsInHanded {} Try.checked os 10 .any (Rows.intervalSpansSpec.pre6 enc Try.prog Try.f10 Rows.intervalSpansRow.domain false) (Rows.intervalSpansSpec.post enc Try.prog Try.f10 false true false false) := by
  refine returnsInHanded_of_change (C := Try.checked) own started (by kernel_rfl) Try.func10
    (ChangeSpec.witness6 (enc := enc) (C := Try.checked) false ⟨#[], #[.agg #[.slice none 0 0, .int .i64 0]], []⟩ 8 (by kernel_rfl) (by kernel_rfl) (by kernel_rfl) (by kernel_rfl)) ?_
  intro W base args ds gs before hval0 hW hcnd _
  have hval : ∀ (j : Nat) t v, Try.f10.params[j]? = some t → args[j]? = some v → Value.okWide Try.prog W .any base t v := hval0
  have hW' := hW
  obtain ⟨p, q, hA0, hV, rfl, hfz, hnd⟩ := hW
  have hA : DataW.TrodAll enc Try.prog W 0 (fun _ => true) true Try.f10.params.toList args.toList ds p := hA0
  rw [Try.params10] at hA hval
  obtain ⟨v0, d0, rfl, rfl, h0⟩ := trodAll_one hA
  obtain ⟨g, hv0, hg⟩ := opens_of (opens_graph W) h0
  obtain rfl : v0 = g.val := cells_agg Try.underlying24 (hval 0 24 v0 rfl rfl) hv0
  exact law_contract laidOut (by kernel_rfl) rfl rfl Try.underlying4 rfl hW' (lawSpans_any W g hg)
/-- IntervalSpans: for every graph the law returns true, and the graph reads as before; no condition. -/
theorem intervalSpans_holds : Rows.IntervalSpansSaid :=
  OpenClaim.holds_of_wide 10 Try.f10 rfl rfl rfl rfl rfl rfl rfl ⟨rfl, rfl, rfl, rfl, rfl⟩ rfl rfl rfl rfl rfl (by kernel_rfl) Try.func10 (by kernel_rfl)
    (of_decide_eq_true (by kernel_rfl)) (by unfold Func.isWrapper; first | (rw [if_pos (by decide +kernel)]; kernel_rfl) | (rw [if_neg (by decide +kernel)]; exact ⟨rfl, rfl⟩))
    (fun os started H enc _ => ispans_lifted os started H enc)
end Go.Proofs.Ytajbngkcgbehlaa
