import Derived.Test.YtgndjjdeopfdkaaGreatKLowerFewer10
/- TE -/
namespace Go.Proofs.YtgndjjdeopfdkaaGreat
open Go.SX Go.ChangeShapes Go.WideShapes Go.ChangeAt Go.RowKit
/- LowerFewer is proved: by giant steps no rows take more turns than without them, if there are more than a few; for every input, under no condition. -/
theorem wf_u8F {x : Int} (h : (Lit.int .u8 x).wf = true) : 0 ≤ x ∧ x ≤ 255 := by
  simp [Lit.wf, IntKind.min, IntKind.max, IntKind.signed, IntKind.bits] at h
  omega
set_option maxRecDepth 100000 in
theorem fewer_lifted (os : Os) (started : os.Started) (H : Type) (enc : TypeId × Value → H) :
    ReturnsInHanded {} Tryz.checked os 4 .any (Rows.lowerFewerSpec.pre6 enc Tryz.prog Tryz.f4 Rows.lowerFewerRow.domain false) (Rows.lowerFewerSpec.post enc Tryz.prog Tryz.f4 false true false false) := by
  refine returnsInHanded_of_change (C := Tryz.checked) ownL started (by kernel_rfl) Tryz.func4
    (ChangeSpec.witness6 (enc := enc) (C := Tryz.checked) false ⟨#[], #[.int .u8 0, .int .u8 0, .int .u8 0], []⟩ 8 (by kernel_rfl) (by kernel_rfl) (by kernel_rfl) (by kernel_rfl)) ?_
  intro W base args ds gs before hval0 hW hcnd _
  have hval : ∀ (j : Nat) t v, Tryz.f4.params[j]? = some t → args[j]? = some v → Value.okWide Tryz.prog W .any base t v := hval0
  have hW' := hW
  obtain ⟨p, q, hA0, hV, rfl, hfz, hnd⟩ := hW
  have hA : DataW.TrodAll enc Tryz.prog W 0 (fun _ => true) true Tryz.f4.params.toList args.toList ds p := hA0
  rw [Tryz.params4] at hA hval
  obtain ⟨v0, v1, v2, d0, d1, d2, p0, p1, p2, rfl, rfl, h0, h1, h2⟩ := trodAll_threeL hA
  obtain ⟨x0, w0, hv0⟩ := opens_ofL (opens_int Tryz.underlying5) h0
  obtain ⟨x1, w1, hv1⟩ := opens_ofL (opens_int Tryz.underlying5) h1
  obtain ⟨x2, w2, hv2⟩ := opens_ofL (opens_int Tryz.underlying5) h2
  obtain rfl : v0 = .int .u8 x0 := cells_int Tryz.underlying5 (hval 0 5 v0 rfl rfl) hv0
  obtain rfl : v1 = .int .u8 x1 := cells_int Tryz.underlying5 (hval 1 5 v1 rfl rfl) hv1
  obtain rfl : v2 = .int .u8 x2 := cells_int Tryz.underlying5 (hval 2 5 v2 rfl rfl) hv2
  exact law_contract laidOutL (by kernel_rfl) rfl rfl Tryz.underlying4 rfl hW' (lawFewer_any W x0 x1 x2 (wf_u8F w0) (wf_u8F w1) (wf_u8F w2))
/-- LowerFewer: for all numbers the law returns true; no condition. -/
theorem lowerFewer_holds : Rows.LowerFewerSaid :=
  OpenClaim.holds_of_wide 4 Tryz.f4 rfl rfl rfl rfl rfl rfl rfl ⟨rfl, rfl, rfl, rfl, rfl⟩ rfl rfl rfl rfl rfl (by kernel_rfl) Tryz.func4 (by kernel_rfl)
    (of_decide_eq_true (by kernel_rfl)) (by unfold Func.isWrapper; first | (rw [if_pos (by decide +kernel)]; kernel_rfl) | (rw [if_neg (by decide +kernel)]; exact ⟨rfl, rfl⟩))
    (fun os started H enc _ => fewer_lifted os started H enc)
end Go.Proofs.YtgndjjdeopfdkaaGreat

