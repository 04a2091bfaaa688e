import Derived.Test.YtdmkdogakbipbaaKLinearSlots5
/- LW -/
namespace Go.Proofs.Ytdmkdogakbipbaa
open Go.SX Go.ChangeShapes Go.WideShapes Go.ChangeAt Go.RowKit
theorem lawSlots_any (w : World) (u : IntsV) (hu : u.rawL w) (layout slots : Int) : Calls Try.prog 9 #[u.val, .int .i64 layout, .int .i64 slots] w fun e w' => e = .returned (.bool true) ∧ Ext w w' := by
  refine calls_of tab tabOk Try.func9 rfl rfl rfl [] (fun _ => ⟨none, 0⟩) [.c u.val, .c (.int .i64 layout), .c (.int .i64 slots)] [] (baseA w) 0 rfl rfl (by show 3 ≤ _; decide) (abs_base w) ?_
  (repeat' ((conv => whnf) <;> first | (show callK _ 27 _ _ _ _ _; (refine call_pure (f := 27) Try.call27 (.bool true) (fun ρ w' hw => fixed19_any w') ?_)) | (show callK _ 28 _ _ _ _ _; (refine call_slots (slotsL u.xs layout slots) Try.call28 (fun ρ w' hw => slots_any w' u (holds_of_abs hw fun R h => rows_base h hu.rows) layout slots) (fun x hx hxs => ?_))) | (show callK _ 29 _ _ _ _ _; (refine call_slots (slotsL u.xs layout slots) Try.call29 (fun ρ w' hw => refSlots_any w' u (holds_of_abs hw fun R h => rows_base h.1 hu.rows) layout slots) (fun y hy hys => ?_))) | (show @cmpK _ _ _; (refine cmp_yes rfl ?_)) | (show callK _ 26 _ _ _ _ _; (refine call_pure (f := 26) Try.call26 (.bool true) (fun ρ w' hw => by have := same_any w' x y (holds_of_abs hw fun R h => intsP_ok hxs h.1.2) (holds_of_abs hw fun R h => intsP_ok hys h.2); rw [decide_eq_true (hx.trans hy.symm)] at this; exact this) ?_)) | (show Wp _ _ _ _ _ _ _; (refine Wp.go tabOk rfl ?_)) | (show @cmpK _ _ _; (first | refine cmp_yes (by omega) ?_ | refine cmp_no (by omega) ?_ | (refine cmp_both ?_ ?_ <;> intro _))) | (show wrapK _ _ _; (refine wrap_i64 (by omega) (by omega) ?_)) | (show leK _ _ _; (refine le_of (by first | exact Nat.le_refl _ | omega) ?_)) | (show roomK _ _ _; (refine room_of (by first | omega | (dsimp only; omega)) ?_)) | (show ltK _ _ _; (refine lt_of (by omega) ?_)) | (show _ ∧ _; (refine ⟨?_, ?_⟩)) | (show keepK _ _ _ _ _; (refine keep_of (by first | exact List.Sublist.refl _ | exact List.Sublist.cons _ (List.Sublist.refl _) | exact List.Sublist.cons _ (List.Sublist.cons _ (List.Sublist.refl _)) | exact List.Sublist.cons _ (List.Sublist.cons _ (List.Sublist.cons _ (List.Sublist.refl _)))) (by first | exact (fun _ _ h => h) | exact (fun _ _ h => h.1) | exact (fun _ _ h => h.1.1)) ?_)) | (show ownK _ _ _ _ _; (refine own_keep ?_))))
  conv => whnf
  exact ends_bool (B := ⟨w, []⟩) (fun R w' h => h.1.1) rfl rfl
set_option maxRecDepth 100000 in
theorem slots_lifted (os : Os) (started : os.Started) (H : Type) (enc : TypeId × Value → H) :
    ReturnsInHanded {} Try.checked os 9 .any (Rows.linearSlotsSpec.pre6 enc Try.prog Try.f9 Rows.linearSlotsRow.domain false) (Rows.linearSlotsSpec.post enc Try.prog Try.f9 false true false false) := by
  refine returnsInHanded_of_change (C := Try.checked) ownL started (by kernel_rfl) Try.func9
    (ChangeSpec.witness6 (enc := enc) (C := Try.checked) false ⟨#[], #[.slice none 0 0, .int .i64 0, .int .i64 0], []⟩ 8 (by kernel_rfl) (by kernel_rfl) (by kernel_rfl) (by kernel_rfl)) ?_
  intro W base args ds gs before hval0 hW hcnd _
  have hval : ∀ (j : Nat) t v, Try.f9.params[j]? = some t → args[j]? = some v → Value.okWide Try.prog W .any base t v := hval0
  have hW' := hW
  obtain ⟨p, q, hA0, hV, rfl, hfz, hnd⟩ := hW
  have hA : DataW.TrodAll enc Try.prog W 0 (fun _ => true) true Try.f9.params.toList args.toList ds p := hA0
  rw [Try.params9] at hA hval
  obtain ⟨v0, v1, v2, d0, d1, d2, p0, p1, p2, rfl, rfl, h0, h1, h2⟩ := trodAll_threeL hA
  obtain ⟨u, hv0, hu⟩ := opens_ofL (opens_intsL W) h0
  obtain ⟨x1, w1, hv1⟩ := opens_ofL (opens_int Try.underlying3) h1
  obtain ⟨x2, w2, hv2⟩ := opens_ofL (opens_int Try.underlying3) h2
  obtain rfl : v0 = u.val := cells_slice Try.underlying33 (hval 0 33 v0 rfl rfl) hv0
  obtain rfl : v1 = .int .i64 x1 := cells_int Try.underlying3 (hval 1 3 v1 rfl rfl) hv1
  obtain rfl : v2 = .int .i64 x2 := cells_int Try.underlying3 (hval 2 3 v2 rfl rfl) hv2
  exact law_contract laidOutL (by kernel_rfl) rfl rfl Try.underlying4 rfl hW' (lawSlots_any W u hu x1 x2)
/-- LinearSlots: for every shape, layout and number of slots the law returns true, and the shape reads as before; no condition. -/
theorem linearSlots_holds : Rows.LinearSlotsSaid :=
  OpenClaim.holds_of_wide 9 Try.f9 rfl rfl rfl rfl rfl rfl rfl ⟨rfl, rfl, rfl, rfl, rfl⟩ rfl rfl rfl rfl rfl (by kernel_rfl) Try.func9 (by kernel_rfl)
    (of_decide_eq_true (by kernel_rfl)) (by unfold Func.isWrapper; first | (rw [if_pos (by decide +kernel)]; kernel_rfl) | (rw [if_neg (by decide +kernel)]; exact ⟨rfl, rfl⟩))
    (fun os started H enc _ => slots_lifted os started H enc)
end Go.Proofs.Ytdmkdogakbipbaa
