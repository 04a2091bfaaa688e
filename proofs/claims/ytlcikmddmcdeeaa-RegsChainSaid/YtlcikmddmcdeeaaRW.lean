import Derived.Test.YtlcikmddmcdeeaaRPa
import Derived.Test.YtlcikmddmcdeeaaRU
namespace Go.Proofs.Ytlcikmddmcdeeaa
open Go.SX Go.ChangeShapes Go.WideShapes Go.ChangeAt Go.RowKit
theorem wf_u8' {x : Int} (h : (Lit.int .u8 x).wf = true) : 0 ≤ x ∧ x ≤ 255 := by
  simp [Lit.wf, IntKind.min, IntKind.max, IntKind.signed, IntKind.bits] at h
  omega
theorem opens_bytes (w : World) : Opens Try.prog w 33 fun cs => ∃ v : BytesV, cs = [v.val] ∧ v.raw w := by
  refine Opens.mono (opens_slice (P := Try.prog) (w := w) (k := 1) Try.underlying33 (by kernel_rfl) (opens_int Try.underlying5)) ?_
  rintro cs ⟨base, cap, xs, rfl, hr, hx, hc, _⟩
  obtain ⟨l, rfl, hall⟩ := list_map_of (f := fun x => [Value.int .u8 x]) (p := fun x => 0 ≤ x ∧ x ≤ 255) fun r hr => by obtain ⟨n, hn, hn'⟩ := (hx r hr).2; exact ⟨n, wf_u8' hn, hn'⟩
  rw [List.length_map] at hc ⊢
  exact ⟨⟨base, cap, l⟩, rfl, hr, hall⟩
set_option maxRecDepth 100000 in
theorem chain_lifted (os : Os) (started : os.Started) (H : Type) (enc : TypeId × Value → H) :
    ReturnsInHanded {} Try.checked os 5 .any (Rows.regsChainSpec.pre6 enc Try.prog Try.f5 Rows.regsChainRow.domain false) (Rows.regsChainSpec.post enc Try.prog Try.f5 false true false false) := by
  refine returnsInHanded_of_change (C := Try.checked) own started (by kernel_rfl) Try.func5
    (ChangeSpec.witness6 (enc := enc) (C := Try.checked) false ⟨#[], #[.slice none 0 0], []⟩ 8 (by kernel_rfl) (by kernel_rfl) (by kernel_rfl) (by kernel_rfl)) ?_
  intro W base args ds gs before hval0 hW hcnd _
  have hval : ∀ (j : Nat) t v, Try.f5.params[j]? = some t → args[j]? = some v → Value.okWide Try.prog W .any base t v := hval0
  have hW' := hW
  obtain ⟨p, q, hA0, hV, rfl, hfz, hnd⟩ := hW
  have hA : DataW.TrodAll enc Try.prog W 0 (fun _ => true) true Try.f5.params.toList args.toList ds p := hA0
  rw [Try.params5] at hA hval
  obtain ⟨v0, d0, rfl, rfl, h0⟩ := trodAll_one hA
  obtain ⟨v, hv0, hv⟩ := opens_of (opens_bytes W) h0
  obtain rfl : v0 = v.val := cells_slice Try.underlying33 (hval 0 33 v0 rfl rfl) hv0
  exact law_contract laidOut (by kernel_rfl) rfl rfl Try.underlying4 rfl hW' (lawChain_any W v hv)
/-- RegsChain: for every row of bytes the law returns true, and the row reads as before; no condition. -/
theorem regsChain_holds : Rows.RegsChainSaid :=
  OpenClaim.holds_of_wide 5 Try.f5 rfl rfl rfl rfl rfl rfl rfl ⟨rfl, rfl, rfl, rfl, rfl⟩ rfl rfl rfl rfl rfl (by kernel_rfl) Try.func5 (by kernel_rfl)
    (of_decide_eq_true (by kernel_rfl)) (by unfold Func.isWrapper; first | (rw [if_pos (by decide +kernel)]; kernel_rfl) | (rw [if_neg (by decide +kernel)]; exact ⟨rfl, rfl⟩))
    (fun os started H enc _ => chain_lifted os started H enc)
end Go.Proofs.Ytlcikmddmcdeeaa
