import Derived.Test.YtdmkdogakbipbaaKLinearPlaces5
/- LX -/
namespace Go.Proofs.Ytdmkdogakbipbaa
open Go.SX Go.ChangeShapes Go.WideShapes Go.ChangeAt Go.RowKit
theorem slotsL_ok {xs : List Int} {layout slots : Int} (h : (slotsL xs layout slots).2 = 0) : ∃ s p n : Nat, entries xs = (n : Nat) ∧ (slotsL xs layout slots).1 = rangeL s p n ∧ 1 ≤ n ∧ n ≤ 64 ∧ 1 ≤ s ∧ s ≤ p ∧ p ≤ 128 ∧ placeL s p (n - 1) < slots ∧ (layout = 0 → n = s) := by
  by_cases hA : entries xs = 0 ∨ layout < 0 ∨ 1 < layout
  · rw [slotsL, if_pos hA] at h; cases h
  · obtain ⟨c, s, p, hcs, hs, hp, hc1, hs1, hsp, hp2, hn64, hc64, hs64, hel⟩ := slots_geo (xs := xs) (layout := layout) (by omega)
    obtain ⟨n, hn⟩ : ∃ n, c * s = n := ⟨_, rfl⟩
    have hn1 : 1 ≤ n := by rw [← hn]; exact Nat.mul_pos hc1 hs1
    rw [hn] at hcs hn64
    have hdef : slotsL xs layout slots = if slots ≤ placeL s p (n - 1) then ([], 7) else (rangeL s p n, 0) := by
      rw [slotsL, if_neg hA, hs, hp, hcs, Int.toNat_natCast]
    rw [hdef] at h
    by_cases hl : slots ≤ placeL s p (n - 1)
    · rw [if_pos hl] at h; cases h
    · rw [if_neg hl] at hdef
      refine ⟨s, p, n, hcs, by rw [hdef], hn1, hn64, hs1, hsp, hp2, by omega, fun h0 => ?_⟩
      have := hel (fun g => by omega)
      rw [this.1, Nat.one_mul] at hn
      exact hn.symm
set_option maxHeartbeats 2000000 in
theorem lawPlaces_any (w : World) (u : IntsV) (hu : u.rawL w) (slots : Int) : Calls Try.prog 12 #[u.val, .int .i64 slots] w fun e w' => e = .returned (.bool true) ∧ Ext w w' := by
  refine calls_of tab tabOk Try.func12 rfl rfl rfl [] (fun _ => ⟨none, 0⟩) [.c u.val, .c (.int .i64 slots)] [] (baseA w) 0 rfl rfl (by show 2 ≤ _; decide) (abs_base w) ?_
  (repeat' ((conv => whnf) <;> first | (show callK _ 27 _ _ _ _ _; (refine call_pure (f := 27) Try.call27 (.bool true) (fun ρ w' hw => fixed19_any w') ?_)) | (show Wp _ _ _ _ _ _ _; (refine Wp.go tabOk rfl ?_)) | (show @cmpK _ _ _; (first | refine cmp_yes (by omega) ?_ | refine cmp_no (by omega) ?_ | (refine cmp_both ?_ ?_ <;> intro _))) | (show wrapK _ _ _; (refine wrap_i64 (by omega) (by omega) ?_)) | (show leK _ _ _; (refine le_of (by first | exact Nat.le_refl _ | omega) ?_)) | (show roomK _ _ _; (refine room_of (by first | omega | (dsimp only; omega)) ?_)) | (show ltK _ _ _; (refine lt_of (by omega) ?_)) | (show _ ∧ _; (refine ⟨?_, ?_⟩)) | (show keepK _ _ _ _ _; (refine keep_of (by first | exact List.Sublist.refl _ | exact List.Sublist.cons _ (List.Sublist.refl _) | exact List.Sublist.cons _ (List.Sublist.cons _ (List.Sublist.refl _)) | exact List.Sublist.cons _ (List.Sublist.cons _ (List.Sublist.cons _ (List.Sublist.refl _)))) (by first | exact (fun _ _ h => h) | exact (fun _ _ h => h.1) | exact (fun _ _ h => h.1.1)) ?_)) | (show ownK _ _ _ _ _; (refine own_keep ?_))))
  refine Wp.loop (σ := Nat) 0 (fun y => [(0, .c u.val), (1, .c (.int .i64 slots)), (12, .c (.int .i64 y))]) (fun _ => []) (fun _ => baseA w)
    (fun y => y ≤ 2) (fun y => 2 - y) 0 [] (by decide) (fun _ => ⟨rfl, rfl⟩) (Nat.zero_le _) ⟨rfl, ⟨rfl, rfl, rfl, trivial⟩, trivial, fun _ _ h => h⟩ ?_
  intro y hy
  by_cases hlt : y < 2
  · by_cases he : (slotsL u.xs y slots).2 = 0
    · obtain ⟨s, p, n, hen, hsl, hn1, hn64, hs1, hsp, hp2, hlast, h0⟩ := slotsL_ok he
      have hdef : slotsL u.xs y slots = (rangeL s p n, 0) := Prod.ext hsl he
      (repeat' ((conv => whnf) <;> first | (show callK _ 28 _ _ _ _ _; (refine call_slots (rangeL s p n, 0) Try.call28 (fun ρ w' hw => by rw [← hdef]; exact slots_any w' u (holds_of_abs hw fun R h => rows_base h hu.rows) y slots) (fun x hx hxs => ?_))) | (show @cmpK _ _ _; (refine cmp_no (fun h => h rfl) ?_)) | (show Wp _ _ _ _ _ _ _; (refine Wp.go tabOk rfl ?_)) | (show @cmpK _ _ _; (first | refine cmp_yes (by omega) ?_ | refine cmp_no (by omega) ?_ | (refine cmp_both ?_ ?_ <;> intro _))) | (show wrapK _ _ _; (refine wrap_i64 (by omega) (by omega) ?_)) | (show leK _ _ _; (refine le_of (by first | exact Nat.le_refl _ | omega) ?_)) | (show roomK _ _ _; (refine room_of (by first | omega | (dsimp only; omega)) ?_)) | (show ltK _ _ _; (refine lt_of (by omega) ?_)) | (show _ ∧ _; (refine ⟨?_, ?_⟩)) | (show keepK _ _ _ _ _; (refine keep_of (by first | exact List.Sublist.refl _ | exact List.Sublist.cons _ (List.Sublist.refl _) | exact List.Sublist.cons _ (List.Sublist.cons _ (List.Sublist.refl _)) | exact List.Sublist.cons _ (List.Sublist.cons _ (List.Sublist.cons _ (List.Sublist.refl _)))) (by first | exact (fun _ _ h => h) | exact (fun _ _ h => h.1) | exact (fun _ _ h => h.1.1)) ?_)) | (show ownK _ _ _ _ _; (refine own_keep ?_))))
      have hxl : x.xs.length = n := by rw [hx]; exact rangeL_length s p n
      refine Wp.loop (σ := Nat) 0 (fun i => [(0, .c u.val), (1, .c (.int .i64 slots)), (12, .c (.int .i64 y)), (5, .c (.int .i64 y)), (6, .c x.val), (24, .c x.val), (25, .c (.int .i64 x.xs.length)), (26, .c (.int .i64 i))]) (fun _ => []) (fun _ => (baseA w).and ((intsA x).past w.heap.size))
        (fun i => i ≤ n) (fun i => n - i) 0 [] (by decide) (fun _ => ⟨rfl, rfl⟩) (Nat.zero_le _) ⟨rfl, ⟨rfl, rfl, rfl, rfl, rfl, rfl, rfl, rfl, trivial⟩, trivial, fun _ _ h => h⟩ ?_
      intro i hi
      refine Wp.know (p := ∃ a, x.base = some a) (fun ρ w' hw => holds_of_abs hw fun R h => (intsP_ok hxs h.2).base (by omega)) ?_
      rintro ⟨xa, hxa⟩
      have hxr : ∀ (R : Nat → Prop) (w' : World), ((baseA w).and ((intsA x).past w.heap.size)).holds R w' → RowsI w' (some xa) 1 (ints x.xs) := fun R w' h => by rw [← hxa]; exact (intsP_ok hxs h.2).rows
      by_cases hlt2 : i < n
      · have hpb := placeL_bd (i := i) (n := n) hs1 hsp hlt2 hn64 hp2
        have hpm := placeL_mono (s := s) (p := p) hs1 hsp (show i ≤ n - 1 by omega)
        have hxi : x.xs.getD i 0 = placeL s p i := by rw [hx]; exact rangeL_getD s p hlt2
        have hxm : 0 < i → x.xs.getD (i - 1) 0 < placeL s p i := fun hp => by
          rw [hx, show ((rangeL s p n, (0 : Int)) : List Int × Int).1 = rangeL s p n from rfl, rangeL_getD s p (show i - 1 < n by omega)]
          have := placeL_lt (s := s) (p := p) (i := i - 1) hs1 hsp
          rwa [show i - 1 + 1 = i by omega] at this
        have hx0 : (y : Int) = 0 → placeL s p i = i := fun h => by
          have hns := h0 h
          rw [placeL_nat, Nat.div_eq_of_lt (by omega), Nat.mod_eq_of_lt (by omega)]; simp
        (repeat' ((conv => whnf) <;> first | (show idxK _ _ _ _ _; (first | refine idx_of xa i hxa rfl (by omega) ?_ | refine idx_of xa (i - 1) hxa (by omega) (by omega) ?_)) | (show roK _ _ _; (first | refine ro_iv hxr (j := i) (by omega) hxi ?_ | refine ro_int hxr (j := i - 1) (by omega) ?_)) | (show Wp _ _ _ _ _ _ _; (refine Wp.go tabOk rfl ?_)) | (show @cmpK _ _ _; (first | refine cmp_yes (by omega) ?_ | refine cmp_no (by omega) ?_ | (refine cmp_both ?_ ?_ <;> intro _))) | (show wrapK _ _ _; (refine wrap_i64 (by omega) (by omega) ?_)) | (show leK _ _ _; (refine le_of (by first | exact Nat.le_refl _ | omega) ?_)) | (show roomK _ _ _; (refine room_of (by first | omega | (dsimp only; omega)) ?_)) | (show ltK _ _ _; (refine lt_of (by omega) ?_)) | (show _ ∧ _; (refine ⟨?_, ?_⟩)) | (show keepK _ _ _ _ _; (refine keep_of (by first | exact List.Sublist.refl _ | exact List.Sublist.cons _ (List.Sublist.refl _) | exact List.Sublist.cons _ (List.Sublist.cons _ (List.Sublist.refl _)) | exact List.Sublist.cons _ (List.Sublist.cons _ (List.Sublist.cons _ (List.Sublist.refl _)))) (by first | exact (fun _ _ h => h) | exact (fun _ _ h => h.1) | exact (fun _ _ h => h.1.1)) ?_)) | (show ownK _ _ _ _ _; (refine own_keep ?_))))
        all_goals (conv => whnf)
        all_goals exact ⟨i + 1, [], hlt2, by omega, rfl, ⟨rfl, rfl, rfl, rfl, rfl, rfl, rfl, rfl, trivial⟩, trivial, fun _ _ h => h⟩
      · (repeat' ((conv => whnf) <;> first | (show callK _ 34 _ _ _ _ _; (refine call_pure (f := 34) Try.call34 (.int .i64 (n : Nat)) (fun ρ w' hw => by have := refEntries_any w' u.base u.cap u.xs (holds_of_abs hw fun R h => rows_base h.1 hu.rows); rw [hen] at this; exact this) ?_)) | (show @cmpK _ _ _; (first | refine cmp_no (by omega) ?_ | refine cmp_no (fun h => h (congrArg Int.ofNat hxl)) ?_)) | (show Wp _ _ _ _ _ _ _; (refine Wp.go tabOk rfl ?_)) | (show @cmpK _ _ _; (first | refine cmp_yes (by omega) ?_ | refine cmp_no (by omega) ?_ | (refine cmp_both ?_ ?_ <;> intro _))) | (show wrapK _ _ _; (refine wrap_i64 (by omega) (by omega) ?_)) | (show leK _ _ _; (refine le_of (by first | exact Nat.le_refl _ | omega) ?_)) | (show roomK _ _ _; (refine room_of (by first | omega | (dsimp only; omega)) ?_)) | (show ltK _ _ _; (refine lt_of (by omega) ?_)) | (show _ ∧ _; (refine ⟨?_, ?_⟩)) | (show keepK _ _ _ _ _; (refine keep_of (by first | exact List.Sublist.refl _ | exact List.Sublist.cons _ (List.Sublist.refl _) | exact List.Sublist.cons _ (List.Sublist.cons _ (List.Sublist.refl _)) | exact List.Sublist.cons _ (List.Sublist.cons _ (List.Sublist.cons _ (List.Sublist.refl _)))) (by first | exact (fun _ _ h => h) | exact (fun _ _ h => h.1) | exact (fun _ _ h => h.1.1)) ?_)) | (show ownK _ _ _ _ _; (refine own_keep ?_))))
        all_goals (conv => whnf)
        exact ⟨y + 1, [], by omega, by omega, rfl, ⟨rfl, rfl, rfl, trivial⟩, trivial, fun _ _ h => h.1⟩
    · (repeat' ((conv => whnf) <;> first | (show callK _ 28 _ _ _ _ _; (refine call_slots (slotsL u.xs y slots) Try.call28 (fun ρ w' hw => slots_any w' u (holds_of_abs hw fun R h => rows_base h hu.rows) y slots) (fun x hx hxs => ?_))) | (show @cmpK _ _ _; (first | refine cmp_yes he ?_ | refine cmp_yes (by omega) ?_)) | (show Wp _ _ _ _ _ _ _; (refine Wp.go tabOk rfl ?_)) | (show @cmpK _ _ _; (first | refine cmp_yes (by omega) ?_ | refine cmp_no (by omega) ?_ | (refine cmp_both ?_ ?_ <;> intro _))) | (show wrapK _ _ _; (refine wrap_i64 (by omega) (by omega) ?_)) | (show leK _ _ _; (refine le_of (by first | exact Nat.le_refl _ | omega) ?_)) | (show roomK _ _ _; (refine room_of (by first | omega | (dsimp only; omega)) ?_)) | (show ltK _ _ _; (refine lt_of (by omega) ?_)) | (show _ ∧ _; (refine ⟨?_, ?_⟩)) | (show keepK _ _ _ _ _; (refine keep_of (by first | exact List.Sublist.refl _ | exact List.Sublist.cons _ (List.Sublist.refl _) | exact List.Sublist.cons _ (List.Sublist.cons _ (List.Sublist.refl _)) | exact List.Sublist.cons _ (List.Sublist.cons _ (List.Sublist.cons _ (List.Sublist.refl _)))) (by first | exact (fun _ _ h => h) | exact (fun _ _ h => h.1) | exact (fun _ _ h => h.1.1)) ?_)) | (show ownK _ _ _ _ _; (refine own_keep ?_))))
      all_goals (conv => whnf)
      all_goals exact ⟨y + 1, [], by omega, by omega, rfl, ⟨rfl, rfl, rfl, trivial⟩, trivial, fun _ _ h => h.1⟩
  · (repeat' ((conv => whnf) <;> first | (show Wp _ _ _ _ _ _ _; (refine Wp.go tabOk rfl ?_)) | (show @cmpK _ _ _; (first | refine cmp_yes (by omega) ?_ | refine cmp_no (by omega) ?_ | (refine cmp_both ?_ ?_ <;> intro _))) | (show wrapK _ _ _; (refine wrap_i64 (by omega) (by omega) ?_)) | (show leK _ _ _; (refine le_of (by first | exact Nat.le_refl _ | omega) ?_)) | (show roomK _ _ _; (refine room_of (by first | omega | (dsimp only; omega)) ?_)) | (show ltK _ _ _; (refine lt_of (by omega) ?_)) | (show _ ∧ _; (refine ⟨?_, ?_⟩)) | (show keepK _ _ _ _ _; (refine keep_of (by first | exact List.Sublist.refl _ | exact List.Sublist.cons _ (List.Sublist.refl _) | exact List.Sublist.cons _ (List.Sublist.cons _ (List.Sublist.refl _)) | exact List.Sublist.cons _ (List.Sublist.cons _ (List.Sublist.cons _ (List.Sublist.refl _)))) (by first | exact (fun _ _ h => h) | exact (fun _ _ h => h.1) | exact (fun _ _ h => h.1.1)) ?_)) | (show ownK _ _ _ _ _; (refine own_keep ?_))))
    all_goals (conv => whnf)
    all_goals exact ends_bool (fun _ _ h => h) rfl rfl
set_option maxRecDepth 100000 in
theorem places_lifted (os : Os) (started : os.Started) (H : Type) (enc : TypeId × Value → H) :
    ReturnsInHanded {} Try.checked os 12 .any (Rows.linearPlacesSpec.pre6 enc Try.prog Try.f12 Rows.linearPlacesRow.domain false) (Rows.linearPlacesSpec.post enc Try.prog Try.f12 false true false false) := by
  refine returnsInHanded_of_change (C := Try.checked) ownL started (by kernel_rfl) Try.func12
    (ChangeSpec.witness6 (enc := enc) (C := Try.checked) false ⟨#[], #[.slice none 0 0, .int .i64 0], []⟩ 8 (by kernel_rfl) (by kernel_rfl) (by kernel_rfl) (by kernel_rfl)) ?_
  intro W base args ds gs before hval0 hW hcnd _
  have hval : ∀ (j : Nat) t v, Try.f12.params[j]? = some t → args[j]? = some v → Value.okWide Try.prog W .any base t v := hval0
  have hW' := hW
  obtain ⟨p, q, hA0, hV, rfl, hfz, hnd⟩ := hW
  have hA : DataW.TrodAll enc Try.prog W 0 (fun _ => true) true Try.f12.params.toList args.toList ds p := hA0
  rw [Try.params12] at hA hval
  obtain ⟨v0, v1, d0, d1, p0, p1, rfl, rfl, h0, h1⟩ := trodAll_twoL hA
  obtain ⟨u, hv0, hu⟩ := opens_ofL (opens_intsL W) h0
  obtain ⟨x1, w1, hv1⟩ := opens_ofL (opens_int Try.underlying3) h1
  obtain rfl : v0 = u.val := cells_slice Try.underlying33 (hval 0 33 v0 rfl rfl) hv0
  obtain rfl : v1 = .int .i64 x1 := cells_int Try.underlying3 (hval 1 3 v1 rfl rfl) hv1
  exact law_contract laidOutL (by kernel_rfl) rfl rfl Try.underlying4 rfl hW' (lawPlaces_any W u hu x1)
/-- LinearPlaces: for every shape and number of slots the law returns true, and the shape reads as before; no condition. -/
theorem linearPlaces_holds : Rows.LinearPlacesSaid :=
  OpenClaim.holds_of_wide 12 Try.f12 rfl rfl rfl rfl rfl rfl rfl ⟨rfl, rfl, rfl, rfl, rfl⟩ rfl rfl rfl rfl rfl (by kernel_rfl) Try.func12 (by kernel_rfl)
    (of_decide_eq_true (by kernel_rfl)) (by unfold Func.isWrapper; first | (rw [if_pos (by decide +kernel)]; kernel_rfl) | (rw [if_neg (by decide +kernel)]; exact ⟨rfl, rfl⟩))
    (fun os started H enc _ => places_lifted os started H enc)
end Go.Proofs.Ytdmkdogakbipbaa
