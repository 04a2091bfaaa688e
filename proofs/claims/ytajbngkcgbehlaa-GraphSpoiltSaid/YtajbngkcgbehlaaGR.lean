import Derived.Test.YtajbngkcgbehlaaGQ
namespace Go.Proofs.Ytajbngkcgbehlaa
open Go.SX Go.RowKit
theorem ints2_ok {l1 : SX.Loc} {R : Nat → Prop} {w : World} {xs : List Int} (hf : ∀ x ∈ xs, -9223372036854775808 ≤ x ∧ x ≤ 9223372036854775807) (h1 : xs.length ≤ l1.cap) (h2 : xs.length ≤ 1000000) (h : ((rowsA l1.base 1 (ints xs)).past 0).holds R w) : (⟨l1.base, l1.cap, xs⟩ : IntsV).ok w :=
  ⟨rowsA_in h, hf, h1, h2⟩
theorem i64_0 : i64 0 := ⟨by decide, by decide⟩
theorem i64_1 : i64 1 := ⟨by decide, by decide⟩
theorem nil_ok (w : World) : (⟨none, 0, []⟩ : IntsV).ok w := ⟨.inl rfl, by simp, Nat.le_refl _, by simp⟩
theorem check_g1 : check (GraphV.mk none 0 [] 0) = (3, []) := by unfold check; rw [if_pos (by simp)]
theorem entries_2 : entries [2] = 2 := by unfold entries; rfl
theorem entries_23 : entries [2, 3] = 6 := by unfold entries; rfl
theorem entries_0 : entries [0] = 0 := by unfold entries; rfl
theorem check_g0 (l1 l2 : SX.Loc) : check (GraphV.mk l2.base l2.cap [(NodeV.mk 1 0 0 ⟨l1.base, l1.cap, [2]⟩ 0 1 0 ⟨none, 0, []⟩ ⟨none, 0, []⟩)] 0) = (0, [[2]]) := by
  have h1 : formB (NodeV.mk 1 0 0 ⟨l1.base, l1.cap, [2]⟩ 0 1 0 ⟨none, 0, []⟩ ⟨none, 0, []⟩) ((([] : List (List Int)).length : Nat) : Int) = true := by
    unfold formB
    rw [if_pos rfl]
    unfold lacksB
    simp only [entries_2]
    rfl
  have h2 : shapeO (NodeV.mk 1 0 0 ⟨l1.base, l1.cap, [2]⟩ 0 1 0 ⟨none, 0, []⟩ ⟨none, 0, []⟩) [] = some [2] := by unfold shapeO; rw [if_pos (by simp)]
  have h3 : nearB (NodeV.mk 1 0 0 ⟨l1.base, l1.cap, [2]⟩ 0 1 0 ⟨none, 0, []⟩ ⟨none, 0, []⟩) = true := by unfold nearB; rfl
  unfold check
  rw [if_neg (by simp)]
  exact (checkR_next h1 h2 h3).trans rfl
set_option maxRecDepth 20000 in
set_option maxHeartbeats 4000000 in
theorem fixed_any (w : World) : Calls Try.prog 15 #[] w fun e w' => e = .returned (.bool true) ∧ Ext w w' := by
  refine calls_of tab tabOk Try.func15 rfl rfl rfl [] (fun _ => ⟨none, 0⟩) [] [] (baseA w) 0 rfl rfl (by show 0 ≤ _; decide) (abs_base w) ?_
  (repeat' ((conv => whnf) <;> first | (show Wp _ _ _ _ _ _ _; (refine Wp.go tabOk rfl ?_)) | (show @cmpK _ _ _; (first | refine cmp_yes (by omega) ?_ | refine cmp_no (by omega) ?_ | (refine cmp_both ?_ ?_ <;> intro _))) | (show wrapK _ _ _; (refine wrap_i64 (by omega) (by omega) ?_)) | (show leK _ _ _; (refine le_of (by first | exact Nat.le_refl _ | omega) ?_)) | (show roomK _ _ _; (refine room_of (by first | omega | (dsimp only; omega)) ?_)) | (show ltK _ _ _; (refine lt_of (by omega) ?_)) | (show _ ∧ _; (refine ⟨?_, ?_⟩)) | (show keepK _ _ _ _ _; (refine keep_of (by first | exact List.Sublist.refl _ | exact List.Sublist.cons _ (List.Sublist.refl _) | exact List.Sublist.cons _ (List.Sublist.cons _ (List.Sublist.refl _)) | exact List.Sublist.cons _ (List.Sublist.cons _ (List.Sublist.cons _ (List.Sublist.refl _)))) (by first | exact (fun _ _ h => h) | exact (fun _ _ h => h.1) | exact (fun _ _ h => h.1.1)) ?_))))
  refine own_freeze 0 (fun _ _ _ _ hb => absurd hb (Nat.not_lt_zero _)) (fun l1 hl1 => ?_)
  (repeat' ((conv => whnf) <;> first | (show Wp _ _ _ _ _ _ _; (refine Wp.go tabOk rfl ?_)) | (show @cmpK _ _ _; (first | refine cmp_yes (by omega) ?_ | refine cmp_no (by omega) ?_ | (refine cmp_both ?_ ?_ <;> intro _))) | (show wrapK _ _ _; (refine wrap_i64 (by omega) (by omega) ?_)) | (show leK _ _ _; (refine le_of (by first | exact Nat.le_refl _ | omega) ?_)) | (show roomK _ _ _; (refine room_of (by first | omega | (dsimp only; omega)) ?_)) | (show ltK _ _ _; (refine lt_of (by omega) ?_)) | (show _ ∧ _; (refine ⟨?_, ?_⟩)) | (show keepK _ _ _ _ _; (refine keep_of (by first | exact List.Sublist.refl _ | exact List.Sublist.cons _ (List.Sublist.refl _) | exact List.Sublist.cons _ (List.Sublist.cons _ (List.Sublist.refl _)) | exact List.Sublist.cons _ (List.Sublist.cons _ (List.Sublist.cons _ (List.Sublist.refl _)))) (by first | exact (fun _ _ h => h) | exact (fun _ _ h => h.1) | exact (fun _ _ h => h.1.1)) ?_))))
  refine own_freeze 0 (fun _ _ _ _ hb => absurd hb (Nat.not_lt_zero _)) (fun l2 hl2 => ?_)
  (repeat' ((conv => whnf) <;> first | (show Wp _ _ _ _ _ _ _; (refine Wp.go tabOk rfl ?_)) | (show @cmpK _ _ _; (first | refine cmp_yes (by omega) ?_ | refine cmp_no (by omega) ?_ | (refine cmp_both ?_ ?_ <;> intro _))) | (show wrapK _ _ _; (refine wrap_i64 (by omega) (by omega) ?_)) | (show leK _ _ _; (refine le_of (by first | exact Nat.le_refl _ | omega) ?_)) | (show roomK _ _ _; (refine room_of (by first | omega | (dsimp only; omega)) ?_)) | (show ltK _ _ _; (refine lt_of (by omega) ?_)) | (show _ ∧ _; (refine ⟨?_, ?_⟩)) | (show keepK _ _ _ _ _; (refine keep_of (by first | exact List.Sublist.refl _ | exact List.Sublist.cons _ (List.Sublist.refl _) | exact List.Sublist.cons _ (List.Sublist.cons _ (List.Sublist.refl _)) | exact List.Sublist.cons _ (List.Sublist.cons _ (List.Sublist.cons _ (List.Sublist.refl _)))) (by first | exact (fun _ _ h => h) | exact (fun _ _ h => h.1) | exact (fun _ _ h => h.1.1)) ?_))))
  refine call_check (f := 17) (check (GraphV.mk l2.base l2.cap [(NodeV.mk 1 0 0 ⟨l1.base, l1.cap, [2]⟩ 0 1 0 ⟨none, 0, []⟩ ⟨none, 0, []⟩)] 0)) Try.call17 (fun ρ w' hw => check_any w' (GraphV.mk l2.base l2.cap [(NodeV.mk 1 0 0 ⟨l1.base, l1.cap, [2]⟩ 0 1 0 ⟨none, 0, []⟩ ⟨none, 0, []⟩)] 0) (holds_of_abs hw fun R h => ⟨rowsA_in h.2, ?_, ?_, (show 1 ≤ 1000000 by decide), i64_0⟩)) ?_ ?_
  · intro n hn
    rw [List.mem_singleton] at hn
    subst hn
    exact ⟨ints2_ok (by simp) hl1 (by simp) h.1.2, nil_ok _, nil_ok _, i64_1, i64_0, i64_0, i64_0, i64_1, i64_0⟩
  · intro n hn
    rw [List.mem_singleton] at hn
    subst hn
    exact ⟨by simp, by simp⟩
  · intro h
    rw [check_g0] at h
    exact absurd rfl h
  intro _ sv hm hs
  obtain ⟨sb, sc, sl⟩ := sv
  rw [check_g0] at hm
  obtain ⟨u, rfl, hu⟩ : ∃ u, sl = [u] ∧ u.xs = [2] := by
    cases sl with
    | nil => simp at hm
    | cons u r =>
      cases r with
      | nil => exact ⟨u, rfl, by simpa using hm⟩
      | cons v r => simp at hm
  (repeat' ((conv => whnf) <;> first | (show @cmpK _ _ _; (first | refine cmp_yes (by omega) ?_ | refine cmp_no (by omega) ?_ | (refine cmp_both ?_ ?_ <;> intro _))) | (show wrapK _ _ _; (refine wrap_i64 (by omega) (by omega) ?_)) | (show leK _ _ _; (refine le_of (by first | exact Nat.le_refl _ | omega) ?_)) | (show roomK _ _ _; (refine room_of (by first | omega | (dsimp only; omega)) ?_)) | (show ltK _ _ _; (refine lt_of (by omega) ?_)) | (show _ ∧ _; (refine ⟨?_, ?_⟩)) | (show keepK _ _ _ _ _; (refine keep_of (by first | exact List.Sublist.refl _ | exact List.Sublist.cons _ (List.Sublist.refl _) | exact List.Sublist.cons _ (List.Sublist.cons _ (List.Sublist.refl _)) | exact List.Sublist.cons _ (List.Sublist.cons _ (List.Sublist.cons _ (List.Sublist.refl _)))) (by first | exact (fun _ _ h => h) | exact (fun _ _ h => h.1) | exact (fun _ _ h => h.1.1)) ?_))))
  refine Wp.know (p := ∃ a, sb = some a) (fun ρ w' hw => holds_of_abs hw fun R h => base_some (j := 0) (rowsA_in h.2.1) (show 0 < 1 by decide)) ?_
  rintro ⟨a, rfl⟩
  refine Wp.go tabOk rfl ?_
  (repeat' ((conv => whnf) <;> first | (show @cmpK _ _ _; (refine cmp_yes rfl ?_)) | (show callK _ 17 _ _ _ _ _; (refine call_check (f := 17) (3, []) Try.call17 (fun ρ w' hw => by have := check_any w' (GraphV.mk none 0 [] 0) ⟨.inl rfl, by simp, by simp, by simp, i64_0⟩; rw [check_g1] at this; exact this) (fun _ => ?_) (fun h => by cases h))) | (show idxK _ _ _ _ _; (refine idx_of a 0 rfl rfl (show 0 < 1 by decide) ?_)) | (show roK _ _ _; (refine ro_row0 (fun R w' h => rowsA_in h.2.1) [u.val] u.val rfl rfl ?_)) | (show Wp _ _ _ _ _ _ _; (refine Wp.go tabOk rfl ?_)) | (show @cmpK _ _ _; (first | refine cmp_yes (by omega) ?_ | refine cmp_no (by omega) ?_ | (refine cmp_both ?_ ?_ <;> intro _))) | (show wrapK _ _ _; (refine wrap_i64 (by omega) (by omega) ?_)) | (show leK _ _ _; (refine le_of (by first | exact Nat.le_refl _ | omega) ?_)) | (show roomK _ _ _; (refine room_of (by first | omega | (dsimp only; omega)) ?_)) | (show ltK _ _ _; (refine lt_of (by omega) ?_)) | (show _ ∧ _; (refine ⟨?_, ?_⟩)) | (show keepK _ _ _ _ _; (refine keep_of (by first | exact List.Sublist.refl _ | exact List.Sublist.cons _ (List.Sublist.refl _) | exact List.Sublist.cons _ (List.Sublist.cons _ (List.Sublist.refl _)) | exact List.Sublist.cons _ (List.Sublist.cons _ (List.Sublist.cons _ (List.Sublist.refl _)))) (by first | exact (fun _ _ h => h) | exact (fun _ _ h => h.1) | exact (fun _ _ h => h.1.1)) ?_))))
  refine own_freeze 0 (fun _ _ _ _ hb => absurd hb (Nat.not_lt_zero _)) (fun l3 hl3 => ?_)
  (repeat' ((conv => whnf) <;> first | (show @cmpK _ _ _; (refine cmp_yes rfl ?_)) | (show callK _ 39 _ _ _ _ _; (refine call_pure (f := 39) Try.call39 (.bool true) (fun ρ w' hw => by have := same_any w' u ⟨l3.base, l3.cap, [2]⟩ (holds_of_abs hw fun R h => intsA_ok (hs u (by simp)) ((intsA u).mono (h.1.2.2 u (by simp)) (fun b hb => hb.1))) (holds_of_abs hw fun R h => ints2_ok (by simp) hl3 (by simp) h.2); rw [decide_eq_true hu] at this; exact this) ?_)) | (show callK _ 20 [.os _ 2] _ _ _ _; (refine call_pure (f := 20) Try.call20 (.int .i64 6) (fun ρ w' hw => by have := entries_any w' (ρ 3).base (ρ 3).cap [2, 3] (rows_of_abs hw List.mem_cons_self); rw [entries_23] at this; exact this) ?_)) | (show callK _ 20 [.os _ 1] _ _ _ _; (refine call_pure (f := 20) Try.call20 (.int .i64 0) (fun ρ w' hw => by have := entries_any w' (ρ 4).base (ρ 4).cap [0] (rows_of_abs hw List.mem_cons_self); rw [entries_0] at this; exact this) ?_)) | (show Wp _ _ _ _ _ _ _; (refine Wp.go tabOk rfl ?_)) | (show @cmpK _ _ _; (first | refine cmp_yes (by omega) ?_ | refine cmp_no (by omega) ?_ | (refine cmp_both ?_ ?_ <;> intro _))) | (show wrapK _ _ _; (refine wrap_i64 (by omega) (by omega) ?_)) | (show leK _ _ _; (refine le_of (by first | exact Nat.le_refl _ | omega) ?_)) | (show roomK _ _ _; (refine room_of (by first | omega | (dsimp only; omega)) ?_)) | (show ltK _ _ _; (refine lt_of (by omega) ?_)) | (show _ ∧ _; (refine ⟨?_, ?_⟩)) | (show keepK _ _ _ _ _; (refine keep_of (by first | exact List.Sublist.refl _ | exact List.Sublist.cons _ (List.Sublist.refl _) | exact List.Sublist.cons _ (List.Sublist.cons _ (List.Sublist.refl _)) | exact List.Sublist.cons _ (List.Sublist.cons _ (List.Sublist.cons _ (List.Sublist.refl _)))) (by first | exact (fun _ _ h => h) | exact (fun _ _ h => h.1) | exact (fun _ _ h => h.1.1)) ?_)) | (show ownK _ _ _ _ _; (refine own_keep ?_))))
  conv => whnf
  exact ends_bool (B := ⟨w, []⟩) (fun R w' h => h.1.1.1.1) rfl rfl
end Go.Proofs.Ytajbngkcgbehlaa
