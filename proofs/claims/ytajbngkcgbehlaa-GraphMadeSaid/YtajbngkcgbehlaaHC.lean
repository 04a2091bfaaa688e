import Derived.Test.YtajbngkcgbehlaaHB
namespace Go.Proofs.Ytajbngkcgbehlaa
open Go.SX Go.ChangeShapes Go.WideShapes Go.ChangeAt Go.RowKit
set_option maxRecDepth 100000 in
theorem made_lifted (os : Os) (started : os.Started) (H : Type) (enc : TypeId × Value → H) :
    ReturnsInHanded {} Try.checked os 5 .any (Rows.graphMadeSpec.pre6 enc Try.prog Try.f5 Rows.graphMadeRow.domain false) (Rows.graphMadeSpec.post enc Try.prog Try.f5 false true false false) := by
  refine returnsInHanded_of_change (C := Try.checked) own started (by kernel_rfl) Try.func5
    (ChangeSpec.witness6 (enc := enc) (C := Try.checked) false ⟨#[], #[.slice none 0 0, .int .u8 0], []⟩ 8 (by kernel_rfl) (by kernel_rfl) (by kernel_rfl) (by kernel_rfl)) ?_
  intro W base args ds gs before hval0 hW hcnd _
  have hval : ∀ (j : Nat) t v, Try.f5.params[j]? = some t → args[j]? = some v → Value.okWide Try.prog W .any base t v := hval0
  have hW' := hW
  obtain ⟨p, q, hA0, hV, rfl, hfz, hnd⟩ := hW
  have hA : DataW.TrodAll enc Try.prog W 0 (fun _ => true) true Try.f5.params.toList args.toList ds p := hA0
  rw [Try.params5] at hA hval
  obtain ⟨v0, v1, d0, d1, p0, p1, rfl, rfl, rfl, h0, h1⟩ := trodAll_two hA
  obtain ⟨t, hv0, ht⟩ := opens_of (opens_bytes W) h0
  obtain ⟨x, hx, hv1⟩ := opens_of (opens_int Try.underlying5) h1
  obtain rfl : v0 = t.val := cells_slice Try.underlying35 (hval 0 35 v0 rfl rfl) hv0
  obtain rfl : v1 = .int .u8 x := cells_int Try.underlying5 (hval 1 5 v1 rfl rfl) hv1
  exact law_contract laidOut (by kernel_rfl) rfl rfl Try.underlying4 rfl hW' (lawMade_any W t ht x (wf_u8' hx))
/-- GraphMade: for every tape and every number the law returns true, and the tape reads as before; no condition. -/
theorem graphMade_holds : Rows.GraphMadeSaid :=
  OpenClaim.holds_of_wide 5 Try.f5 rfl rfl rfl rfl rfl rfl rfl ⟨rfl, rfl, rfl, rfl, rfl⟩ rfl rfl rfl rfl rfl (by kernel_rfl) Try.func5 (by kernel_rfl)
    (of_decide_eq_true (by kernel_rfl)) (by unfold Func.isWrapper; first | (rw [if_pos (by decide +kernel)]; kernel_rfl) | (rw [if_neg (by decide +kernel)]; exact ⟨rfl, rfl⟩))
    (fun os started H enc _ => made_lifted os started H enc)
end Go.Proofs.Ytajbngkcgbehlaa
