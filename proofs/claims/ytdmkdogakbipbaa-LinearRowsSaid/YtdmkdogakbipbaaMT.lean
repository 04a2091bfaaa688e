import Derived.Test.YtdmkdogakbipbaaKLinearRows11
/- MT -/
namespace Go.Proofs.Ytdmkdogakbipbaa
open Go.SX Go.ChangeShapes Go.WideShapes Go.ChangeAt Go.RowKit
set_option maxRecDepth 100000 in
theorem rows_lifted (os : Os) (started : os.Started) (H : Type) (enc : TypeId × Value → H) :
    ReturnsInHanded {} Try.checked os 13 .any (Rows.linearRowsSpec.pre6 enc Try.prog Try.f13 Rows.linearRowsRow.domain false) (Rows.linearRowsSpec.post enc Try.prog Try.f13 false true false false) := by
  refine returnsInHanded_of_change (C := Try.checked) ownL started (by kernel_rfl) Try.func13
    (ChangeSpec.witness6 (enc := enc) (C := Try.checked) false ⟨#[], #[.agg #[.int .i64 0, .int .i64 0, .int .i64 0, .slice none 0 0, .int .i64 0, .int .i64 0, .int .i64 0, .slice none 0 0, .slice none 0 0], .slice none 0 0], []⟩ 8 (by kernel_rfl) (by kernel_rfl) (by kernel_rfl) (by kernel_rfl)) ?_
  intro W base args ds gs before hval0 hW hcnd _
  have hval : ∀ (j : Nat) t v, Try.f13.params[j]? = some t → args[j]? = some v → Value.okWide Try.prog W .any base t v := hval0
  have hW' := hW
  obtain ⟨p, q, hA0, hV, rfl, hfz, hnd⟩ := hW
  have hA : DataW.TrodAll enc Try.prog W 0 (fun _ => true) true Try.f13.params.toList args.toList ds p := hA0
  rw [Try.params13] at hA hval
  obtain ⟨v0, v1, d0, d1, p0, p1, rfl, rfl, h0, h1⟩ := trodAll_twoL hA
  obtain ⟨n, hv0, hn⟩ := opens_ofL (opens_node W) h0
  obtain ⟨u, hv1, hu⟩ := opens_ofL (opens_intsL W) h1
  obtain rfl : v0 = n.valA := cells_agg Try.underlying38 (hval 0 38 v0 rfl rfl) hv0
  obtain rfl : v1 = u.val := cells_slice Try.underlying33 (hval 1 33 v1 rfl rfl) hv1
  exact law_contract laidOutL (by kernel_rfl) rfl rfl Try.underlying4 rfl hW' (lawRows_any W n hn u hu)
/-- LinearRows: for every node and shape the law returns true, and what came in reads as before; no condition. -/
theorem linearRows_holds : Rows.LinearRowsSaid :=
  OpenClaim.holds_of_wide 13 Try.f13 rfl rfl rfl rfl rfl rfl rfl ⟨rfl, rfl, rfl, rfl, rfl⟩ rfl rfl rfl rfl rfl (by kernel_rfl) Try.func13 (by kernel_rfl)
    (of_decide_eq_true (by kernel_rfl)) (by unfold Func.isWrapper; first | (rw [if_pos (by decide +kernel)]; kernel_rfl) | (rw [if_neg (by decide +kernel)]; exact ⟨rfl, rfl⟩))
    (fun os started H enc _ => rows_lifted os started H enc)
end Go.Proofs.Ytdmkdogakbipbaa

