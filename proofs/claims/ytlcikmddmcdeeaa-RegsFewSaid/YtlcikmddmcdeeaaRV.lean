import Derived.Test.YtlcikmddmcdeeaaRPa
import Derived.Test.YtlcikmddmcdeeaaRS
namespace Go.Proofs.Ytlcikmddmcdeeaa
open Go.SX Go.ChangeShapes Go.WideShapes Go.ChangeAt Go.RowKit
set_option maxRecDepth 100000 in
theorem few_lifted (os : Os) (started : os.Started) (H : Type) (enc : TypeId × Value → H) :
    ReturnsInHanded {} Try.checked os 4 .any (Rows.regsFewSpec.pre6 enc Try.prog Try.f4 Rows.regsFewRow.domain false) (Rows.regsFewSpec.post enc Try.prog Try.f4 false true false false) := by
  refine returnsInHanded_of_change (C := Try.checked) own started (by kernel_rfl) Try.func4
    (ChangeSpec.witness6 (enc := enc) (C := Try.checked) false ⟨#[], #[.slice none 0 0], []⟩ 8 (by kernel_rfl) (by kernel_rfl) (by kernel_rfl) (by kernel_rfl)) ?_
  intro W base args ds gs before hval0 hW hcnd _
  have hval : ∀ (j : Nat) t v, Try.f4.params[j]? = some t → args[j]? = some v → Value.okWide Try.prog W .any base t v := hval0
  have hW' := hW
  obtain ⟨p, q, hA0, hV, rfl, hfz, hnd⟩ := hW
  have hA : DataW.TrodAll enc Try.prog W 0 (fun _ => true) true Try.f4.params.toList args.toList ds p := hA0
  rw [Try.params4] at hA hval
  obtain ⟨v0, d0, rfl, rfl, h0⟩ := trodAll_one hA
  obtain ⟨v, hv0, hv⟩ := opens_of (opens_code W) h0
  obtain rfl : v0 = v.val := cells_slice Try.underlying22 (hval 0 22 v0 rfl rfl) hv0
  exact law_contract laidOut (by kernel_rfl) rfl rfl Try.underlying4 rfl hW' (lawFew_any W v hv)
/-- RegsFew: for every row of instructions the law returns true, and the row reads as before; no condition. -/
theorem regsFew_holds : Rows.RegsFewSaid :=
  OpenClaim.holds_of_wide 4 Try.f4 rfl rfl rfl rfl rfl rfl rfl ⟨rfl, rfl, rfl, rfl, rfl⟩ rfl rfl rfl rfl rfl (by kernel_rfl) Try.func4 (by kernel_rfl)
    (of_decide_eq_true (by kernel_rfl)) (by unfold Func.isWrapper; first | (rw [if_pos (by decide +kernel)]; kernel_rfl) | (rw [if_neg (by decide +kernel)]; exact ⟨rfl, rfl⟩))
    (fun os started H enc _ => few_lifted os started H enc)
end Go.Proofs.Ytlcikmddmcdeeaa
