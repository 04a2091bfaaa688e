import Derived.Test.YtajbngkcgbehlaaKScrollReads8
/- SQ -/
namespace Go.Proofs.Ytajbngkcgbehlaa
open Go.SX Go.ChangeShapes Go.WideShapes Go.ChangeAt Go.RowKit
theorem wf_u8R {x : Int} (h : (Lit.int .u8 x).wf = true) : 0 ≤ x ∧ x ≤ 255 := by
  simp [Lit.wf, IntKind.min, IntKind.max, IntKind.signed, IntKind.bits] at h
  omega
theorem opens_bytesR (w : World) : Opens Try.prog w 35 fun cs => ∃ u : RdV, cs = [u.val] ∧ RdRaw w u := by
  refine Opens.mono (opens_slice (P := Try.prog) (w := w) (k := 1) Try.underlying35 (by kernel_rfl) (opens_int Try.underlying5)) ?_
  rintro cs ⟨base, cap, xs, rfl, h1, h2, h3, h4, h5⟩
  obtain ⟨l, rfl, hl⟩ := list_map_of (f := fun (i : Int) => [Value.int .u8 i]) (p := fun i => 0 ≤ i ∧ i ≤ 255) fun r hr => by
    obtain ⟨_, i, hi, rfl⟩ := h2 r hr
    exact ⟨i, wf_u8R hi, rfl⟩
  exact ⟨⟨base, cap, l⟩, by simp [RdV.val], ⟨h1, hl, by simpa using h3, h5⟩⟩
set_option maxRecDepth 100000 in
theorem reads_lifted (os : Os) (started : os.Started) (H : Type) (enc : TypeId × Value → H) :
    ReturnsInHanded {} Try.checked os 8 .any (Rows.scrollReadsSpec.pre6 enc Try.prog Try.f8 Rows.scrollReadsRow.domain false) (Rows.scrollReadsSpec.post enc Try.prog Try.f8 false true false false) := by
  refine returnsInHanded_of_change (C := Try.checked) ownS started (by kernel_rfl) Try.func8
    (ChangeSpec.witness6 (enc := enc) (C := Try.checked) false ⟨#[], #[.slice none 0 0], []⟩ 8 (by kernel_rfl) (by kernel_rfl) (by kernel_rfl) (by kernel_rfl)) ?_
  intro W base args ds gs before hval0 hW hcnd _
  have hval : ∀ (j : Nat) t v, Try.f8.params[j]? = some t → args[j]? = some v → Value.okWide Try.prog W .any base t v := hval0
  have hW' := hW
  obtain ⟨p, q, hA0, hV, rfl, hfz, hnd⟩ := hW
  have hA : DataW.TrodAll enc Try.prog W 0 (fun _ => true) true Try.f8.params.toList args.toList ds p := hA0
  rw [Try.params8] at hA hval
  obtain ⟨v0, d0, rfl, rfl, h0⟩ := trodAll_one hA
  obtain ⟨u, hv0, hu⟩ := opens_ofS (opens_bytesR W) h0
  obtain rfl : v0 = u.val := cells_slice Try.underlying35 (hval 0 35 v0 rfl rfl) hv0
  exact law_contract laidOutS (by kernel_rfl) rfl rfl Try.underlying4 rfl hW' (lawReads_any W u hu)
/-- ScrollReads: for all bytes the law returns true, and they read as before; no condition. -/
theorem scrollReads_holds : Rows.ScrollReadsSaid :=
  OpenClaim.holds_of_wide 8 Try.f8 rfl rfl rfl rfl rfl rfl rfl ⟨rfl, rfl, rfl, rfl, rfl⟩ rfl rfl rfl rfl rfl (by kernel_rfl) Try.func8 (by kernel_rfl)
    (of_decide_eq_true (by kernel_rfl)) (by unfold Func.isWrapper; first | (rw [if_pos (by decide +kernel)]; kernel_rfl) | (rw [if_neg (by decide +kernel)]; exact ⟨rfl, rfl⟩))
    (fun os started H enc _ => reads_lifted os started H enc)
end Go.Proofs.Ytajbngkcgbehlaa
