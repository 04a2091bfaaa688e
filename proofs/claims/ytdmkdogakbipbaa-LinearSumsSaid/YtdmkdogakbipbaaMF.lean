import Derived.Test.YtdmkdogakbipbaaKLinearSums6
/- MF -/
namespace Go.Proofs.Ytdmkdogakbipbaa
open Go.SX Go.ChangeShapes Go.WideShapes Go.ChangeAt Go.RowKit
theorem trodAll_fiveL {H : Type} {enc : TypeId × Value → H} {P : Program} {w : World} {base : Nat} {spare : Nat → Bool} {held : Bool} {t0 t1 t2 t3 t4 : TypeId} {args : Array Value} {ds : List (DataW H)} {ps : List MemPlace} (h : DataW.TrodAll enc P w base spare held [t0, t1, t2, t3, t4] args.toList ds ps) :
    ∃ v0 v1 v2 v3 v4 d0 d1 d2 d3 d4 p0 p1 p2 p3 p4, args = #[v0, v1, v2, v3, v4] ∧ ds = [d0, d1, d2, d3, d4] ∧ DataW.Trod enc P w base spare held t0 v0 d0 p0 ∧ DataW.Trod enc P w base spare held t1 v1 d1 p1 ∧ DataW.Trod enc P w base spare held t2 v2 d2 p2 ∧ DataW.Trod enc P w base spare held t3 v3 d3 p3 ∧ DataW.Trod enc P w base spare held t4 v4 d4 p4 := by
  obtain ⟨v0, vs0, d0, ds0, p0, q0, e0, rfl, rfl, h0, r0⟩ := trodAll_cons h
  obtain ⟨v1, vs1, d1, ds1, p1, q1, rfl, rfl, rfl, h1, r1⟩ := trodAll_cons r0
  obtain ⟨v2, vs2, d2, ds2, p2, q2, rfl, rfl, rfl, h2, r2⟩ := trodAll_cons r1
  obtain ⟨v3, vs3, d3, ds3, p3, q3, rfl, rfl, rfl, h3, r3⟩ := trodAll_cons r2
  obtain ⟨v4, vs4, d4, ds4, p4, q4, rfl, rfl, rfl, h4, r4⟩ := trodAll_cons r3
  obtain ⟨rfl, rfl, rfl⟩ := trodAll_nil r4
  exact ⟨v0, v1, v2, v3, v4, d0, d1, d2, d3, d4, p0, p1, p2, p3, p4, by cases args; simp_all, rfl, h0, h1, h2, h3, h4⟩
set_option maxRecDepth 100000 in
theorem sums_lifted (os : Os) (started : os.Started) (H : Type) (enc : TypeId × Value → H) :
    ReturnsInHanded {} Try.checked os 11 .any (Rows.linearSumsSpec.pre6 enc Try.prog Try.f11 Rows.linearSumsRow.domain false) (Rows.linearSumsSpec.post enc Try.prog Try.f11 false true false false) := by
  refine returnsInHanded_of_change (C := Try.checked) ownL started (by kernel_rfl) Try.func11
    (ChangeSpec.witness6 (enc := enc) (C := Try.checked) false ⟨#[], #[.slice none 0 0, .slice none 0 0, .slice none 0 0, .int .i64 0, .slice none 0 0], []⟩ 8 (by kernel_rfl) (by kernel_rfl) (by kernel_rfl) (by kernel_rfl)) ?_
  intro W base args ds gs before hval0 hW hcnd _
  have hval : ∀ (j : Nat) t v, Try.f11.params[j]? = some t → args[j]? = some v → Value.okWide Try.prog W .any base t v := hval0
  have hW' := hW
  obtain ⟨p, q, hA0, hV, rfl, hfz, hnd⟩ := hW
  have hA : DataW.TrodAll enc Try.prog W 0 (fun _ => true) true Try.f11.params.toList args.toList ds p := hA0
  rw [Try.params11] at hA hval
  obtain ⟨v0, v1, v2, v3, v4, d0, d1, d2, d3, d4, p0, p1, p2, p3, p4, rfl, rfl, h0, h1, h2, h3, h4⟩ := trodAll_fiveL hA
  obtain ⟨rv, hv0, hr⟩ := opens_ofL (opens_rowsL W) h0
  obtain ⟨fv, hv1, hf⟩ := opens_ofL (opens_intsL W) h1
  obtain ⟨tv, hv2, ht⟩ := opens_ofL (opens_intsL W) h2
  obtain ⟨x3, w3, hv3⟩ := opens_ofL (opens_int Try.underlying3) h3
  obtain ⟨vv, hv4, hv⟩ := opens_ofL (opens_intsL W) h4
  obtain rfl : v0 = rv.val := cells_slice Try.underlying31 (hval 0 31 v0 rfl rfl) hv0
  obtain rfl : v1 = fv.val := cells_slice Try.underlying33 (hval 1 33 v1 rfl rfl) hv1
  obtain rfl : v2 = tv.val := cells_slice Try.underlying33 (hval 2 33 v2 rfl rfl) hv2
  obtain rfl : v3 = .int .i64 x3 := cells_int Try.underlying3 (hval 3 3 v3 rfl rfl) hv3
  obtain rfl : v4 = vv.val := cells_slice Try.underlying33 (hval 4 33 v4 rfl rfl) hv4
  exact law_contract laidOutL (by kernel_rfl) rfl rfl Try.underlying4 rfl hW' (lawSums_any W rv hr fv tv hf ht x3 (wf_i64L w3) vv hv)
/-- LinearSums: for all rows, places, numbers of slots and values the law returns true, and what came in reads as before; no condition. -/
theorem linearSums_holds : Rows.LinearSumsSaid :=
  OpenClaim.holds_of_wide 11 Try.f11 rfl rfl rfl rfl rfl rfl rfl ⟨rfl, rfl, rfl, rfl, rfl⟩ rfl rfl rfl rfl rfl (by kernel_rfl) Try.func11 (by kernel_rfl)
    (of_decide_eq_true (by kernel_rfl)) (by unfold Func.isWrapper; first | (rw [if_pos (by decide +kernel)]; kernel_rfl) | (rw [if_neg (by decide +kernel)]; exact ⟨rfl, rfl⟩))
    (fun os started H enc _ => sums_lifted os started H enc)
end Go.Proofs.Ytdmkdogakbipbaa
