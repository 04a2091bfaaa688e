import Derived.Test.YtdmkdogakbipbaaRows
import Derived.Test.YtdmkdogakbipbaaKTidyDouble10
/- PO -/
namespace Go.Proofs.Ytdmkdogakbipbaa
open Go.SX Go.ChangeShapes Go.WideShapes Go.ChangeAt Go.RowKit
set_option maxRecDepth 100000 in
theorem tidyDouble_lifted (os : Os) (started : os.Started) (H : Type) (enc : TypeId × Value → H) :
    ReturnsInHanded {} Try.checked os 7 .any (Rows.tidyDoubleSpec.pre6 enc Try.prog Try.f7 Rows.tidyDoubleRow.domain false) (Rows.tidyDoubleSpec.post enc Try.prog Try.f7 false true false false) := by
  refine returnsInHanded_of_change (C := Try.checked) own started (by kernel_rfl) Try.func7
    (ChangeSpec.witness6 (enc := enc) (C := Try.checked) false ⟨#[], #[.slice none 0 0], []⟩ 8 (by kernel_rfl) (by kernel_rfl) (by kernel_rfl) (by kernel_rfl)) ?_
  intro W base args ds gs before hval0 hW hcnd _
  have hval : ∀ (j : Nat) t v, Try.f7.params[j]? = some t → args[j]? = some v → Value.okWide Try.prog W .any base t v := hval0
  have hW' := hW
  obtain ⟨p, q, hA0, hV, rfl, hfz, hnd⟩ := hW
  have hA : DataW.TrodAll enc Try.prog W 0 (fun _ => true) true Try.f7.params.toList args.toList ds p := hA0
  rw [Try.params7] at hA hval
  obtain ⟨v0, d0, rfl, rfl, h0⟩ := trodAll_one hA
  obtain ⟨t, hv0, ht⟩ := opens_of (opens_bytes W) h0
  obtain rfl : v0 = t.val := cells_slice Try.underlying22 (hval 0 22 v0 rfl rfl) hv0
  exact law_contract laidOut (by kernel_rfl) rfl rfl Try.underlying4 rfl hW' (lawTidyDouble_any W t ht)
/-- TidyDouble: for every tape the law returns true, and it reads as before; no condition. -/
theorem tidyDouble_holds : Rows.TidyDoubleSaid :=
  OpenClaim.holds_of_wide 7 Try.f7 rfl rfl rfl rfl rfl rfl rfl ⟨rfl, rfl, rfl, rfl, rfl⟩ rfl rfl rfl rfl rfl (by kernel_rfl) Try.func7 (by kernel_rfl)
    (of_decide_eq_true (by kernel_rfl)) (by unfold Func.isWrapper; first | (rw [if_pos (by decide +kernel)]; kernel_rfl) | (rw [if_neg (by decide +kernel)]; exact ⟨rfl, rfl⟩))
    (fun os started H enc _ => tidyDouble_lifted os started H enc)
end Go.Proofs.Ytdmkdogakbipbaa

