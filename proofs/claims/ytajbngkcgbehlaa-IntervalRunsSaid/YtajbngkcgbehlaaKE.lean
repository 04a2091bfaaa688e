import Derived.Test.YtajbngkcgbehlaaKIntervalRuns11
/- KE -/
namespace Go.Proofs.Ytajbngkcgbehlaa
open Go.SX Go.ChangeShapes Go.WideShapes Go.ChangeAt Go.RowKit
theorem opens_inputs (w : World) : Opens Try.prog w 27 fun cs => ∃ v : ShapesV, cs = [v.val] ∧ InR w v := by
  have h := opens_slice (P := Try.prog) (w := w) (k := 1) Try.underlying27 (by kernel_rfl) (opens_intsV w)
  refine Opens.mono h ?_
  rintro cs ⟨base, cap, xs, rfl, hr, hx, hroom, _⟩
  obtain ⟨l, rfl, hall⟩ := list_map_of (f := fun u : IntsV => [u.val]) (p := fun u => u.raw w) fun r hr => by obtain ⟨u, hu, hu'⟩ := (hx r hr).2; exact ⟨u, hu', hu⟩
  exact ⟨⟨base, cap, l⟩, by simp [ShapesV.val], hr, hall, by simpa using hroom⟩
set_option maxRecDepth 100000 in
theorem iruns_lifted (os : Os) (started : os.Started) (H : Type) (enc : TypeId × Value → H) :
    ReturnsInHanded {} Try.checked os 11 .any (Rows.intervalRunsSpec.pre6 enc Try.prog Try.f11 Rows.intervalRunsRow.domain false) (Rows.intervalRunsSpec.post enc Try.prog Try.f11 false true false false) := by
  refine returnsInHanded_of_change (C := Try.checked) own started (by kernel_rfl) Try.func11
    (ChangeSpec.witness6 (enc := enc) (C := Try.checked) false ⟨#[], #[.agg #[.slice none 0 0, .int .i64 0], .slice none 0 0], []⟩ 8 (by kernel_rfl) (by kernel_rfl) (by kernel_rfl) (by kernel_rfl)) ?_
  intro W base args ds gs before hval0 hW hcnd _
  have hval : ∀ (j : Nat) t v, Try.f11.params[j]? = some t → args[j]? = some v → Value.okWide Try.prog W .any base t v := hval0
  have hW' := hW
  obtain ⟨p, q, hA0, hV, rfl, hfz, hnd⟩ := hW
  have hA : DataW.TrodAll enc Try.prog W 0 (fun _ => true) true Try.f11.params.toList args.toList ds p := hA0
  rw [Try.params11] at hA hval
  obtain ⟨v0, v1, d0, d1, p0, p1, rfl, rfl, rfl, h0, h1⟩ := trodAll_two hA
  obtain ⟨g, hv0, hg⟩ := opens_of (opens_graph W) h0
  obtain rfl : v0 = g.val := cells_agg Try.underlying24 (hval 0 24 v0 rfl rfl) hv0
  obtain ⟨v, hv1, hv⟩ := opens_of (opens_inputs W) h1
  obtain rfl : v1 = v.val := cells_slice Try.underlying27 (hval 1 27 v1 rfl rfl) hv1
  exact law_contract laidOut (by kernel_rfl) rfl rfl Try.underlying4 rfl hW' (lawRuns_any W g hg v hv)
/-- IntervalRuns: for every graph and all inputs the law returns true, and they read as before; no condition. -/
theorem intervalRuns_holds : Rows.IntervalRunsSaid :=
  OpenClaim.holds_of_wide 11 Try.f11 rfl rfl rfl rfl rfl rfl rfl ⟨rfl, rfl, rfl, rfl, rfl⟩ rfl rfl rfl rfl rfl (by kernel_rfl) Try.func11 (by kernel_rfl)
    (of_decide_eq_true (by kernel_rfl)) (by unfold Func.isWrapper; first | (rw [if_pos (by decide +kernel)]; kernel_rfl) | (rw [if_neg (by decide +kernel)]; exact ⟨rfl, rfl⟩))
    (fun os started H enc _ => iruns_lifted os started H enc)
end Go.Proofs.Ytajbngkcgbehlaa
