import Derived.Test.YtajbngkcgbehlaaKIntervalRuns10
/- KD -/
namespace Go.Proofs.Ytajbngkcgbehlaa
open Go.SX Go.RowKit
theorem call_runB {cx : Cx} {f : FuncId} {args : List SV} {H : Heap} {S : Asn} {nx : Nat} {K : SV → Heap → Asn → Nat → Prop} (r : Int × List Int) (hf : ∀ ar w, (callFunc f ar).run cx.P w = .ok (.enter f ar) w)
    (hc : ∀ ρ w', Abs cx.B ρ nx H S w' → Calls cx.P f (SV.rfs ρ args).toArray w' (RunPost w' r))
    (h : ∀ x : IntsV, x.xs = (if r.1 = 0 then r.2 else []) → x.sane → K (.c (.tuple #[x.val, .int .i64 r.1])) H (S.and ((intsA x).past cx.B.w0.heap.size)) nx) : callK cx f args H S nx K := by
  rw [callK_def]
  refine ⟨hf, fun ρ w hw => (hc ρ w hw).mono ?_⟩
  rintro e w' (⟨hr, rfl, he⟩ | ⟨hr, x, ⟨hx1, hx2⟩, rfl, he, hD⟩)
  · exact ⟨.c (.tuple #[.slice none 0 0, .int .i64 r.1]), ρ, H, _, nx, rfl, fun _ _ => rfl, Nat.le_refl _, SV.lt_c _, hw.grow he (nilI_holds _ w'), h nilI (by rw [if_neg hr]; rfl) nilI_sane⟩
  · have := h x (by rw [if_pos hr]; exact hx1) hx2
    rw [hr] at this
    exact ⟨.c (.tuple #[x.val, .int .i64 0]), ρ, H, _, nx, rfl, fun _ _ => rfl, Nat.le_refl _, SV.lt_c _, hw.grow he hD, this⟩
theorem call_rrun {cx : Cx} {f : FuncId} {args : List SV} {H : Heap} {S : Asn} {nx : Nat} {K : SV → Heap → Asn → Nat → Prop} (src : List IntsV) (r : Int × List Int) (hf : ∀ ar w, (callFunc f ar).run cx.P w = .ok (.enter f ar) w)
    (hc : ∀ ρ w', Abs cx.B ρ nx H S w' → Calls cx.P f (SV.rfs ρ args).toArray w' (RRunPost src w' r))
    (h : ∀ x : Mix, x.1.xs = (if r.1 = 0 then r.2 else []) → x.1.sane → (x.2 = true → x.1 ∈ src) → K (.c (.tuple #[x.1.val, .int .i64 r.1])) H (S.and ((oldA x).past cx.B.w0.heap.size)) nx) : callK cx f args H S nx K := by
  rw [callK_def]
  refine ⟨hf, fun ρ w hw => (hc ρ w hw).mono ?_⟩
  rintro e w' (⟨hr, rfl, he⟩ | ⟨hr, x, ⟨hx1, hx2, hx3⟩, rfl, he, hD⟩)
  · exact ⟨.c (.tuple #[.slice none 0 0, .int .i64 r.1]), ρ, H, _, nx, rfl, fun _ _ => rfl, Nat.le_refl _, SV.lt_c _, hw.grow (D := oldA (nilI, false)) he (fun _ => nilI_holds _ w'), h (nilI, false) (by rw [if_neg hr]; rfl) nilI_sane (fun e => by cases e)⟩
  · have := h x (by rw [if_pos hr]; exact hx1) hx2 hx3
    rw [hr] at this
    exact ⟨.c (.tuple #[x.1.val, .int .i64 0]), ρ, H, _, nx, rfl, fun _ _ => rfl, Nat.le_refl _, SV.lt_c _, hw.grow (D := oldA x) he hD, this⟩
/-- inputs as they come in -/
structure InR (w : World) (v : ShapesV) : Prop where
  rows : RowsI w v.base 1 (shRows v.l)
  each : ∀ u ∈ v.l, u.raw w
  room : v.l.length ≤ v.cap
theorem InR.ok {w : World} {v : ShapesV} (h : InR w v) (hl : v.l.length ≤ 40) (hf : ∀ u ∈ v.l, u.xs.length ≤ 200) : InV.ok w v := ⟨h.rows, fun u hu => (h.each u hu).ok (by have := hf u hu; omega), h.room, by omega⟩
set_option maxRecDepth 20000 in
set_option maxHeartbeats 4000000 in
theorem lawRuns_any (w : World) (g : GraphV) (hg : g.raw w) (iv : ShapesV) (hi : InR w iv) : Calls Try.prog 11 #[g.val, iv.val] w fun e w' => e = .returned (.bool true) ∧ Ext w w' := by
  by_cases h40 : iv.l.length ≤ 40
  · refine calls_of tab tabOk Try.func11 rfl rfl rfl [] (fun _ => ⟨none, 0⟩) [.agg [.c (.slice g.base g.l.length g.cap), .c (.int .i64 g.out)], .c iv.val] [] (baseA w) 0 rfl rfl (by show 2 ≤ _; decide) (abs_base w) ?_
    (repeat' ((conv => whnf) <;> first | (show callK _ 33 _ _ _ _ _; (refine call_pure (f := 33) Try.call33 (.bool true) (fun ρ w' hw => fixed17_any w') ?_)) | (show callK _ 16 _ _ _ _ _; ((refine call_bool (f := 16) Try.call16 _ (fun ρ w' hw => few_any w' g (holds_of_abs hw fun R h => hg.later h)) ?_ ?_ <;> intro hf))) | (show drawK _ 18 _ _ _ _ _ _; (refine draw_quiet tabOk mixed (by kernel_rfl) ?_)) | (show Wp _ _ _ _ _ _ _; (refine Wp.go tabOk rfl ?_)) | (show @cmpK _ _ _; (first | refine cmp_yes (by omega) ?_ | refine cmp_no (by omega) ?_ | (refine cmp_both ?_ ?_ <;> intro _))) | (show wrapK _ _ _; (refine wrap_i64 (by omega) (by omega) ?_)) | (show leK _ _ _; (refine le_of (by first | exact Nat.le_refl _ | omega) ?_)) | (show roomK _ _ _; (refine room_of (by first | omega | (dsimp only; omega)) ?_)) | (show ltK _ _ _; (refine lt_of (by omega) ?_)) | (show _ ∧ _; (refine ⟨?_, ?_⟩)) | (show keepK _ _ _ _ _; (refine keep_of (by first | exact List.Sublist.refl _ | exact List.Sublist.cons _ (List.Sublist.refl _) | exact List.Sublist.cons _ (List.Sublist.cons _ (List.Sublist.refl _)) | exact List.Sublist.cons _ (List.Sublist.cons _ (List.Sublist.cons _ (List.Sublist.refl _)))) (by first | exact (fun _ _ h => h) | exact (fun _ _ h => h.1) | exact (fun _ _ h => h.1.1)) ?_)) | (show ownK _ _ _ _ _; (refine own_keep ?_))))
    all_goals (conv => whnf)
    all_goals try (exact ends_bool (fun _ _ h => h) rfl rfl)
    have hgo := raw_ok hg hf
    refine Wp.loop (σ := Nat × List IntsV) 2 (fun ⟨i, us⟩ => [(1, .c iv.val), (2, .lp 0 0 0 0), (5, .os 1 i), (23, .c iv.val), (24, .c (.int .i64 iv.l.length)), (25, .c (.int .i64 i))]) (fun ⟨_, us⟩ => [(1, .rows (shRows us) 1 32), (0, .box [.c (.slice g.base g.l.length g.cap), .c (.int .i64 g.out)] 24)]) (fun ⟨_, us⟩ => (baseA w).and (eachA w.heap.size us))
      (fun ⟨i, us⟩ => i ≤ iv.l.length ∧ us.map IntsV.xs = (iv.l.take i).map IntsV.xs ∧ (∀ u ∈ us, u.sane) ∧ ∀ u ∈ iv.l.take i, u.xs.length ≤ 200) (fun s => iv.l.length - s.1) (0, []) [(1, none)] (by decide) (fun s => ⟨rfl, rfl⟩) ⟨Nat.zero_le _, by simp, fun u hu => by simp at hu, fun u hu => by simp at hu⟩ ⟨rfl, ⟨rfl, rfl, rfl, rfl, rfl, rfl, trivial⟩, ⟨rfl, (by repeat (first | exact List.mem_cons_self | apply List.mem_cons_of_mem)), trivial⟩, fun R w' h => ⟨h, eachA_nil _ R w'⟩⟩ ?_
    rintro ⟨i, us⟩ ⟨hil, hum, hus, h200⟩
    have hul : us.length = i := by have := congrArg List.length hum; rw [List.length_map, List.length_map, List.length_take] at this; omega
    by_cases hlt : i < iv.l.length
    · obtain ⟨ia, hia⟩ : ∃ a, iv.base = some a := base_some (j := i) hi.rows (by rw [shRows_length]; exact hlt)
      have hxm := List.getElem_mem hlt
      have hrowX := shRows_get hlt
      have htk : iv.l.take (i + 1) = iv.l.take i ++ [iv.l[i]] := List.take_succ_eq_append_getElem hlt
      generalize iv.l[i] = x at *
      have hxr := hi.each x hxm
      subst hul
      by_cases hx2 : x.xs.length ≤ 200
      · obtain ⟨xb, xc, xs⟩ := x
        cases xb with
        | some xa =>
          (repeat' ((conv => whnf) <;> first | (show idxK _ _ _ _ _; (refine idx_of ia us.length hia rfl hlt ?_)) | (show roK _ _ _; (refine ro_row0 (fun R w' h => by rw [← hia]; exact rows_base h.1 hi.rows) _ _ hrowX rfl ?_)) | (show roRowsK _ _ _ _ _; (refine roRows_in (ints_length xs) (fun R w' h => rows_base h.1 hxr.rows) ints_row ?_)) | (show ownK (SV.os 3 _) _ _ _ _; (refine own_freeze w.heap.size (fun R w' h b hb => (h.1 b hb).1) (fun l hl => ?_))) | (show roomK _ _ _; (refine room_of (by first | (show (us.length + 1) * 24 ≤ 140737488355328; omega) | (show (0 + (ints xs).length) * 8 ≤ 140737488355328; rw [ints_length]; simp only at hx2; omega) | exact Nat.zero_le _) ?_)) | (show leK _ _ _; (refine le_of (by first | exact Nat.zero_le _ | (rw [shRows_length]; exact Nat.le_refl _)) ?_)) | (show drawK _ 18 _ _ _ _ _ _; (refine draw_quiet tabOk mixed (by kernel_rfl) ?_)) | (show Wp _ _ _ _ _ _ _; (refine Wp.go tabOk rfl ?_)) | (show @cmpK _ _ _; (first | refine cmp_yes (by omega) ?_ | refine cmp_no (by omega) ?_ | (refine cmp_both ?_ ?_ <;> intro _))) | (show wrapK _ _ _; (refine wrap_i64 (by omega) (by omega) ?_)) | (show leK _ _ _; (refine le_of (by first | exact Nat.le_refl _ | omega) ?_)) | (show roomK _ _ _; (refine room_of (by first | omega | (dsimp only; omega)) ?_)) | (show ltK _ _ _; (refine lt_of (by omega) ?_)) | (show _ ∧ _; (refine ⟨?_, ?_⟩)) | (show keepK _ _ _ _ _; (refine keep_of (by first | exact List.Sublist.refl _ | exact List.Sublist.cons _ (List.Sublist.refl _) | exact List.Sublist.cons _ (List.Sublist.cons _ (List.Sublist.refl _)) | exact List.Sublist.cons _ (List.Sublist.cons _ (List.Sublist.cons _ (List.Sublist.refl _)))) (by first | exact (fun _ _ h => h) | exact (fun _ _ h => h.1) | exact (fun _ _ h => h.1.1)) ?_)) | (show ownK _ _ _ _ _; (refine own_keep ?_))))
          all_goals (conv => whnf)
          all_goals exact ⟨(us.length + 1, us ++ [IntsV.mk l.base l.cap xs]), [(1, some 5)], ⟨hlt, by rw [htk, List.map_append, List.map_append, hum]; rfl, fun z hz => by
            rcases List.mem_append.1 hz with hz | hz
            · exact hus z hz
            · rw [List.mem_singleton.1 hz]; exact ⟨hxr.fits, by simpa [ints_length] using hl, by simp only at hx2 ⊢; omega⟩, fun z hz => by
            rw [htk] at hz
            rcases List.mem_append.1 hz with hz | hz
            · exact h200 z hz
            · rw [List.mem_singleton.1 hz]; exact hx2⟩, by simp only; omega, rfl, ⟨rfl, rfl, rfl, rfl, rfl, rfl, trivial⟩, ⟨rows_snoc2 us l xs, (by repeat (first | exact List.mem_cons_self | apply List.mem_cons_of_mem)), trivial⟩, fun R w' h => ⟨h.1.1, eachA_snoc h.1.2 h.2⟩⟩
        | none =>
          have hx0 : xs = [] := by
            rcases hxr.rows with h | ⟨a, ha, _⟩
            · cases xs with
              | nil => rfl
              | cons z r => simp [ints] at h
            · cases ha
          subst hx0
          (repeat' ((conv => whnf) <;> first | (show idxK _ _ _ _ _; (refine idx_of ia us.length hia rfl hlt ?_)) | (show roK _ _ _; (refine ro_row0 (fun R w' h => by rw [← hia]; exact rows_base h.1 hi.rows) _ _ hrowX rfl ?_)) | (show roRowsK _ _ _ _ _; (refine roRows_in (ints_length []) (fun R w' h => rows_base h.1 hxr.rows) ints_row ?_)) | (show ownK (SV.os 3 _) _ _ _ _; (refine own_freeze w.heap.size (fun R w' h b hb => (h.1 b hb).1) (fun l hl => ?_))) | (show roomK _ _ _; (refine room_of (by first | (show (us.length + 1) * 24 ≤ 140737488355328; omega) | (show (0 + (ints []).length) * 8 ≤ 140737488355328; rw [ints_length]; simp only at hx2; omega) | exact Nat.zero_le _) ?_)) | (show leK _ _ _; (refine le_of (by first | exact Nat.zero_le _ | (rw [shRows_length]; exact Nat.le_refl _)) ?_)) | (show drawK _ 18 _ _ _ _ _ _; (refine draw_quiet tabOk mixed (by kernel_rfl) ?_)) | (show Wp _ _ _ _ _ _ _; (refine Wp.go tabOk rfl ?_)) | (show @cmpK _ _ _; (first | refine cmp_yes (by omega) ?_ | refine cmp_no (by omega) ?_ | (refine cmp_both ?_ ?_ <;> intro _))) | (show wrapK _ _ _; (refine wrap_i64 (by omega) (by omega) ?_)) | (show leK _ _ _; (refine le_of (by first | exact Nat.le_refl _ | omega) ?_)) | (show roomK _ _ _; (refine room_of (by first | omega | (dsimp only; omega)) ?_)) | (show ltK _ _ _; (refine lt_of (by omega) ?_)) | (show _ ∧ _; (refine ⟨?_, ?_⟩)) | (show keepK _ _ _ _ _; (refine keep_of (by first | exact List.Sublist.refl _ | exact List.Sublist.cons _ (List.Sublist.refl _) | exact List.Sublist.cons _ (List.Sublist.cons _ (List.Sublist.refl _)) | exact List.Sublist.cons _ (List.Sublist.cons _ (List.Sublist.cons _ (List.Sublist.refl _)))) (by first | exact (fun _ _ h => h) | exact (fun _ _ h => h.1) | exact (fun _ _ h => h.1.1)) ?_)) | (show ownK _ _ _ _ _; (refine own_keep ?_))))
          all_goals (conv => whnf)
          all_goals exact ⟨(us.length + 1, us ++ [IntsV.mk l.base l.cap []]), [(1, some 5)], ⟨hlt, by rw [htk, List.map_append, List.map_append, hum]; rfl, fun z hz => by
            rcases List.mem_append.1 hz with hz | hz
            · exact hus z hz
            · rw [List.mem_singleton.1 hz]; exact ⟨hxr.fits, Nat.zero_le _, by simp only at hx2 ⊢; omega⟩, fun z hz => by
            rw [htk] at hz
            rcases List.mem_append.1 hz with hz | hz
            · exact h200 z hz
            · rw [List.mem_singleton.1 hz]; exact hx2⟩, by simp only; omega, rfl, ⟨rfl, rfl, rfl, rfl, rfl, rfl, trivial⟩, ⟨rows_snoc2 us l [], (by repeat (first | exact List.mem_cons_self | apply List.mem_cons_of_mem)), trivial⟩, fun R w' h => ⟨h.1.1, eachA_snoc h.1.2 h.2⟩⟩
      · (repeat' ((conv => whnf) <;> first | (show idxK _ _ _ _ _; (refine idx_of ia us.length hia rfl hlt ?_)) | (show roK _ _ _; (refine ro_row0 (fun R w' h => by rw [← hia]; exact rows_base h.1 hi.rows) _ _ hrowX rfl ?_)) | (show drawK _ 18 _ _ _ _ _ _; (refine draw_quiet tabOk mixed (by kernel_rfl) ?_)) | (show Wp _ _ _ _ _ _ _; (refine Wp.go tabOk rfl ?_)) | (show @cmpK _ _ _; (first | refine cmp_yes (by omega) ?_ | refine cmp_no (by omega) ?_ | (refine cmp_both ?_ ?_ <;> intro _))) | (show wrapK _ _ _; (refine wrap_i64 (by omega) (by omega) ?_)) | (show leK _ _ _; (refine le_of (by first | exact Nat.le_refl _ | omega) ?_)) | (show roomK _ _ _; (refine room_of (by first | omega | (dsimp only; omega)) ?_)) | (show ltK _ _ _; (refine lt_of (by omega) ?_)) | (show _ ∧ _; (refine ⟨?_, ?_⟩)) | (show keepK _ _ _ _ _; (refine keep_of (by first | exact List.Sublist.refl _ | exact List.Sublist.cons _ (List.Sublist.refl _) | exact List.Sublist.cons _ (List.Sublist.cons _ (List.Sublist.refl _)) | exact List.Sublist.cons _ (List.Sublist.cons _ (List.Sublist.cons _ (List.Sublist.refl _)))) (by first | exact (fun _ _ h => h) | exact (fun _ _ h => h.1) | exact (fun _ _ h => h.1.1)) ?_)) | (show ownK _ _ _ _ _; (refine own_keep ?_))))
        all_goals (conv => whnf)
        all_goals first | (exfalso; omega) | exact ends_bool (fun _ _ h => h.1) rfl rfl
    · have hiz : i = iv.l.length := by omega
      subst hiz
      rw [List.take_of_length_le (Nat.le_refl _)] at hum h200
      have hiv := hi.ok h40 h200
      refine Wp.freezeN 1 w.heap.size (k := 1) (xs := shRows us) (T := 32) (by repeat (first | exact List.mem_cons_self | apply List.mem_cons_of_mem)) (fun R w' h b hb => (h.1 b hb).1) (fun l1 hl1 => ?_)
      rw [shRows_length] at hl1
      have hown : ∀ {R : Nat → Prop} {w' : World}, (eachA w.heap.size us).holds R w' → ((rowsA l1.base 1 (shRows us)).past w.heap.size).holds R w' → InV.ok w' ⟨l1.base, l1.cap, us⟩ := fun h1 h2 => ⟨rowsA_in h2, fun u hu => intsA_ok (hus u hu) ((intsA u).mono (h1 u hu) (fun b hb => hb.1)), hl1, by simp only; omega⟩
      (repeat' ((conv => whnf) <;> first | (show drawK _ 18 _ _ _ _ _ _; (refine draw_quiet tabOk mixed (by kernel_rfl) ?_)) | (show Wp _ _ _ _ _ _ _; (refine Wp.go tabOk rfl ?_)) | (show @cmpK _ _ _; (first | refine cmp_yes (by omega) ?_ | refine cmp_no (by omega) ?_ | (refine cmp_both ?_ ?_ <;> intro _))) | (show wrapK _ _ _; (refine wrap_i64 (by omega) (by omega) ?_)) | (show leK _ _ _; (refine le_of (by first | exact Nat.le_refl _ | omega) ?_)) | (show roomK _ _ _; (refine room_of (by first | omega | (dsimp only; omega)) ?_)) | (show ltK _ _ _; (refine lt_of (by omega) ?_)) | (show _ ∧ _; (refine ⟨?_, ?_⟩)) | (show keepK _ _ _ _ _; (refine keep_of (by first | exact List.Sublist.refl _ | exact List.Sublist.cons _ (List.Sublist.refl _) | exact List.Sublist.cons _ (List.Sublist.cons _ (List.Sublist.refl _)) | exact List.Sublist.cons _ (List.Sublist.cons _ (List.Sublist.cons _ (List.Sublist.refl _)))) (by first | exact (fun _ _ h => h) | exact (fun _ _ h => h.1) | exact (fun _ _ h => h.1.1)) ?_)) | (show ownK _ _ _ _ _; (refine own_keep ?_))))
      refine call_runB (f := 37) (runH g (us.map IntsV.xs)) Try.call37 (fun ρ w' hw => by
        have := run_all w' g (holds_of_abs hw fun R h => hgo.later h.1.1) ⟨l1.base, l1.cap, us⟩ (holds_of_abs hw fun R h => hown h.1.2 h.2)
        unfold ShapesV.val at this
        simp only [hul] at this
        exact this) (fun x hx hxs => ?_)
      rw [hum] at hx ⊢
      (repeat' ((conv => whnf) <;> first | (show drawK _ 18 _ _ _ _ _ _; (refine draw_quiet tabOk mixed (by kernel_rfl) ?_)) | (show Wp _ _ _ _ _ _ _; (refine Wp.go tabOk rfl ?_)) | (show @cmpK _ _ _; (first | refine cmp_yes (by omega) ?_ | refine cmp_no (by omega) ?_ | (refine cmp_both ?_ ?_ <;> intro _))) | (show wrapK _ _ _; (refine wrap_i64 (by omega) (by omega) ?_)) | (show leK _ _ _; (refine le_of (by first | exact Nat.le_refl _ | omega) ?_)) | (show roomK _ _ _; (refine room_of (by first | omega | (dsimp only; omega)) ?_)) | (show ltK _ _ _; (refine lt_of (by omega) ?_)) | (show _ ∧ _; (refine ⟨?_, ?_⟩)) | (show keepK _ _ _ _ _; (refine keep_of (by first | exact List.Sublist.refl _ | exact List.Sublist.cons _ (List.Sublist.refl _) | exact List.Sublist.cons _ (List.Sublist.cons _ (List.Sublist.refl _)) | exact List.Sublist.cons _ (List.Sublist.cons _ (List.Sublist.cons _ (List.Sublist.refl _)))) (by first | exact (fun _ _ h => h) | exact (fun _ _ h => h.1) | exact (fun _ _ h => h.1.1)) ?_)) | (show ownK _ _ _ _ _; (refine own_keep ?_))))
      refine call_rrun (f := 38) (srcOf g iv) (runH g (iv.l.map IntsV.xs)) Try.call38 (fun ρ w' hw => refRun_any w' g (holds_of_abs hw fun R h => hgo.later h.1.1.1) iv (holds_of_abs hw fun R h => InV.later hiv h.1.1.1)) (fun y hy hys hyo => ?_)
      generalize runH g (iv.l.map IntsV.xs) = r at *
      have hyok : ∀ {R : Nat → Prop} {w' : World}, (baseA w).holds R w' → ((oldA y).past w.heap.size).holds R w' → y.1.ok w' := fun h1 h2 => by
        cases e : y.2 with
        | true => exact (srcOk hgo hiv _ (hyo e)).later h1
        | false => exact intsA_ok hys (h2 e)
      have hxy : x.xs = y.1.xs := hx.trans hy.symm
      (repeat' ((conv => whnf) <;> first | (show drawK _ 18 _ _ _ _ _ _; (refine draw_quiet tabOk mixed (by kernel_rfl) ?_)) | (show Wp _ _ _ _ _ _ _; (refine Wp.go tabOk rfl ?_)) | (show @cmpK _ _ _; (first | refine cmp_yes (by omega) ?_ | refine cmp_no (by omega) ?_ | (refine cmp_both ?_ ?_ <;> intro _))) | (show wrapK _ _ _; (refine wrap_i64 (by omega) (by omega) ?_)) | (show leK _ _ _; (refine le_of (by first | exact Nat.le_refl _ | omega) ?_)) | (show roomK _ _ _; (refine room_of (by first | omega | (dsimp only; omega)) ?_)) | (show ltK _ _ _; (refine lt_of (by omega) ?_)) | (show _ ∧ _; (refine ⟨?_, ?_⟩)) | (show keepK _ _ _ _ _; (refine keep_of (by first | exact List.Sublist.refl _ | exact List.Sublist.cons _ (List.Sublist.refl _) | exact List.Sublist.cons _ (List.Sublist.cons _ (List.Sublist.refl _)) | exact List.Sublist.cons _ (List.Sublist.cons _ (List.Sublist.cons _ (List.Sublist.refl _)))) (by first | exact (fun _ _ h => h) | exact (fun _ _ h => h.1) | exact (fun _ _ h => h.1.1)) ?_)) | (show ownK _ _ _ _ _; (refine own_keep ?_))))
      all_goals (conv => whnf)
      refine Wp.loop (σ := Nat) 2 (fun i => [(1, .c iv.val), (5, .c (.slice l1.base iv.l.length l1.cap)), (8, .c x.val), (9, .c (.int .i64 r.1)), (10, .c y.1.val), (11, .c (.int .i64 r.1)), (52, .c (.int .i64 iv.l.length)), (53, .c (.int .i64 i))]) (fun _ => []) (fun _ => ((((baseA w).and (eachA w.heap.size us)).and ((rowsA l1.base 1 (shRows us)).past w.heap.size)).and ((intsA x).past w.heap.size)).and ((oldA y).past w.heap.size))
        (fun i => i ≤ iv.l.length) (fun i => iv.l.length - i) 0 [] (by decide) (fun s => ⟨rfl, rfl⟩) (Nat.zero_le _) ⟨rfl, ⟨rfl, rfl, rfl, rfl, rfl, rfl, rfl, rfl, trivial⟩, trivial, fun _ _ h => h⟩ ?_
      rintro i hi2
      by_cases hlt : i < iv.l.length
      · have hlu : i < us.length := by omega
        obtain ⟨ia, hia⟩ : ∃ a, iv.base = some a := base_some (j := i) hi.rows (by rw [shRows_length]; exact hlt)
        refine Wp.know (p := ∃ a, l1.base = some a) (fun ρ w' hw => holds_of_abs hw fun R h => base_some (j := i) (rowsA_in h.1.1.2) (by rw [shRows_length]; exact hlu)) ?_
        rintro ⟨la, hla⟩
        have hxm := List.getElem_mem hlt
        have hum2 := List.getElem_mem hlu
        have hrowX := shRows_get hlt
        have hrowU := shRows_get hlu
        have heq : us[i].xs = iv.l[i].xs := by
          have := congrArg (fun l : List (List Int) => l[i]?) hum
          simp only [List.getElem?_map, List.getElem?_eq_getElem hlt, List.getElem?_eq_getElem hlu, Option.map_some, Option.some.injEq] at this
          exact this
        generalize iv.l[i] = x2 at *
        generalize us[i] = u2 at *
        have hsame : ∀ w', u2.ok w' → x2.ok w' → Calls Try.prog 39 #[u2.val, x2.val] w' fun e w'' => e = .returned (.bool true) ∧ Ext w' w'' := fun w' h1 h2 => by
          have := same_any w' u2 x2 h1 h2
          rw [decide_eq_true heq] at this
          exact this
        (repeat' ((conv => whnf) <;> first | (show idxK _ _ _ _ _; (first | refine idx_of la i hla rfl hlt ?_ | refine idx_of ia i hia rfl hlt ?_)) | (show roK _ _ _; (first | refine ro_row0 (fun R w' h => by rw [← hla]; exact rowsA_in h.1.1.2) _ _ hrowU rfl ?_ | refine ro_row0 (fun R w' h => by rw [← hia]; exact rows_base h.1.1.1.1 hi.rows) _ _ hrowX rfl ?_)) | (show callQ _ 39 _ _ _ _ _; (refine callQ_of (f := 39) Try.call39 (.bool true) (fun ρ w' hw => hsame w' (holds_of_abs hw fun R h => intsA_ok (hus u2 hum2) ((intsA u2).mono (h.1.1.1.2 u2 hum2) (fun b hb => hb.1))) (holds_of_abs hw fun R h => (hiv.each x2 hxm).later h.1.1.1.1)) ?_)) | (show drawK _ 18 _ _ _ _ _ _; (refine draw_quiet tabOk mixed (by kernel_rfl) ?_)) | (show Wp _ _ _ _ _ _ _; (refine Wp.go tabOk rfl ?_)) | (show @cmpK _ _ _; (first | refine cmp_yes (by omega) ?_ | refine cmp_no (by omega) ?_ | (refine cmp_both ?_ ?_ <;> intro _))) | (show wrapK _ _ _; (refine wrap_i64 (by omega) (by omega) ?_)) | (show leK _ _ _; (refine le_of (by first | exact Nat.le_refl _ | omega) ?_)) | (show roomK _ _ _; (refine room_of (by first | omega | (dsimp only; omega)) ?_)) | (show ltK _ _ _; (refine lt_of (by omega) ?_)) | (show _ ∧ _; (refine ⟨?_, ?_⟩)) | (show keepK _ _ _ _ _; (refine keep_of (by first | exact List.Sublist.refl _ | exact List.Sublist.cons _ (List.Sublist.refl _) | exact List.Sublist.cons _ (List.Sublist.cons _ (List.Sublist.refl _)) | exact List.Sublist.cons _ (List.Sublist.cons _ (List.Sublist.cons _ (List.Sublist.refl _)))) (by first | exact (fun _ _ h => h) | exact (fun _ _ h => h.1) | exact (fun _ _ h => h.1.1)) ?_)) | (show ownK _ _ _ _ _; (refine own_keep ?_))))
        all_goals (conv => whnf)
        all_goals exact ⟨i + 1, [], hlt, by omega, rfl, ⟨rfl, rfl, rfl, rfl, rfl, rfl, rfl, rfl, trivial⟩, trivial, fun _ _ h => h⟩
      · have hsame : ∀ w', x.ok w' → y.1.ok w' → Calls Try.prog 39 #[x.val, y.1.val] w' fun e w'' => e = .returned (.bool true) ∧ Ext w' w'' := fun w' h1 h2 => by
          have := same_any w' x y.1 h1 h2
          rw [decide_eq_true hxy] at this
          exact this
        (repeat' ((conv => whnf) <;> first | (show callK _ 39 _ _ _ _ _; (refine call_pure (f := 39) Try.call39 (.bool true) (fun ρ w' hw => hsame w' (holds_of_abs hw fun R h => intsA_ok hxs ((intsA x).mono h.1.2 (fun b hb => hb.1))) (holds_of_abs hw fun R h => hyok h.1.1.1.1 h.2)) ?_)) | (show drawK _ 18 _ _ _ _ _ _; (refine draw_quiet tabOk mixed (by kernel_rfl) ?_)) | (show Wp _ _ _ _ _ _ _; (refine Wp.go tabOk rfl ?_)) | (show @cmpK _ _ _; (first | refine cmp_yes (by omega) ?_ | refine cmp_no (by omega) ?_ | (refine cmp_both ?_ ?_ <;> intro _))) | (show wrapK _ _ _; (refine wrap_i64 (by omega) (by omega) ?_)) | (show leK _ _ _; (refine le_of (by first | exact Nat.le_refl _ | omega) ?_)) | (show roomK _ _ _; (refine room_of (by first | omega | (dsimp only; omega)) ?_)) | (show ltK _ _ _; (refine lt_of (by omega) ?_)) | (show _ ∧ _; (refine ⟨?_, ?_⟩)) | (show keepK _ _ _ _ _; (refine keep_of (by first | exact List.Sublist.refl _ | exact List.Sublist.cons _ (List.Sublist.refl _) | exact List.Sublist.cons _ (List.Sublist.cons _ (List.Sublist.refl _)) | exact List.Sublist.cons _ (List.Sublist.cons _ (List.Sublist.cons _ (List.Sublist.refl _)))) (by first | exact (fun _ _ h => h) | exact (fun _ _ h => h.1) | exact (fun _ _ h => h.1.1)) ?_)) | (show ownK _ _ _ _ _; (refine own_keep ?_))))
        all_goals (conv => whnf)
        all_goals first | (exfalso; omega) | exact ends_bool (fun _ _ h => h.1.1.1.1) rfl rfl
  · refine calls_of tab tabOk Try.func11 rfl rfl rfl [] (fun _ => ⟨none, 0⟩) [.agg [.c (.slice g.base g.l.length g.cap), .c (.int .i64 g.out)], .c iv.val] [] (baseA w) 0 rfl rfl (by show 2 ≤ _; decide) (abs_base w) ?_
    (repeat' ((conv => whnf) <;> first | (show callK _ 33 _ _ _ _ _; (refine call_pure (f := 33) Try.call33 (.bool true) (fun ρ w' hw => fixed17_any w') ?_)) | (show callK _ 16 _ _ _ _ _; ((refine call_bool (f := 16) Try.call16 _ (fun ρ w' hw => few_any w' g (holds_of_abs hw fun R h => hg.later h)) ?_ ?_ <;> intro hf))) | (show drawK _ 18 _ _ _ _ _ _; (refine draw_quiet tabOk mixed (by kernel_rfl) ?_)) | (show Wp _ _ _ _ _ _ _; (refine Wp.go tabOk rfl ?_)) | (show @cmpK _ _ _; (first | refine cmp_yes (by omega) ?_ | refine cmp_no (by omega) ?_ | (refine cmp_both ?_ ?_ <;> intro _))) | (show wrapK _ _ _; (refine wrap_i64 (by omega) (by omega) ?_)) | (show leK _ _ _; (refine le_of (by first | exact Nat.le_refl _ | omega) ?_)) | (show roomK _ _ _; (refine room_of (by first | omega | (dsimp only; omega)) ?_)) | (show ltK _ _ _; (refine lt_of (by omega) ?_)) | (show _ ∧ _; (refine ⟨?_, ?_⟩)) | (show keepK _ _ _ _ _; (refine keep_of (by first | exact List.Sublist.refl _ | exact List.Sublist.cons _ (List.Sublist.refl _) | exact List.Sublist.cons _ (List.Sublist.cons _ (List.Sublist.refl _)) | exact List.Sublist.cons _ (List.Sublist.cons _ (List.Sublist.cons _ (List.Sublist.refl _)))) (by first | exact (fun _ _ h => h) | exact (fun _ _ h => h.1) | exact (fun _ _ h => h.1.1)) ?_)) | (show ownK _ _ _ _ _; (refine own_keep ?_))))
    all_goals (conv => whnf)
    all_goals exact ends_bool (fun _ _ h => h) rfl rfl
end Go.Proofs.Ytajbngkcgbehlaa
/- GT -/
namespace Go.Proofs.Ytajbngkcgbehlaa
open Go.SX Go.ChangeShapes Go.WideShapes Go.ChangeAt Go.RowKit
/-- a field's cells: a number, or numbers -/
def FieldQ (w : World) (f : Field) (cs : List Value) : Prop :=
  (f.type = 3 → ∃ i, (Lit.int .i64 i).wf = true ∧ cs = [.int .i64 i]) ∧ (f.type = 32 → ∃ u : IntsV, cs = [u.val] ∧ u.raw w)
theorem list9 {cs : List Value} (h : cs.length = 9) : ∃ a b c d e f g i j, cs = [a, b, c, d, e, f, g, i, j] := by
  match cs, h with
  | [a, b, c, d, e, f, g, i, j], _ => exact ⟨a, b, c, d, e, f, g, i, j, rfl⟩
theorem list2 {cs : List Value} (h : cs.length = 2) : ∃ a b, cs = [a, b] := by
  match cs, h with
  | [a, b], _ => exact ⟨a, b, rfl⟩
theorem c_int : Try.prog.cellsOf 3 = 1 := by kernel_rfl
theorem c_ints : Try.prog.cellsOf 32 = 1 := by kernel_rfl
theorem opens_node (w : World) : Opens Try.prog w 43 fun cs => ∃ n : NodeV, cs = n.cells ∧ n.raw w := by
  have h := opens_struct (P := Try.prog) (w := w) (k := 9) (Q := FieldQ w) Try.underlying43 (by kernel_rfl) (by
    intro f hf
    have hi : ∀ t, t = 3 → Opens Try.prog w t fun cs => (t = 3 → ∃ i, (Lit.int .i64 i).wf = true ∧ cs = [.int .i64 i]) ∧ (t = 32 → ∃ u : IntsV, cs = [u.val] ∧ u.raw w) := by
      rintro t rfl
      exact Opens.mono (opens_int Try.underlying3) fun cs hc => ⟨fun _ => hc, fun h => (by cases h)⟩
    have hs : ∀ t, t = 32 → Opens Try.prog w t fun cs => (t = 3 → ∃ i, (Lit.int .i64 i).wf = true ∧ cs = [.int .i64 i]) ∧ (t = 32 → ∃ u : IntsV, cs = [u.val] ∧ u.raw w) := by
      rintro t rfl
      exact Opens.mono (opens_intsV w) fun cs hc => ⟨fun h => (by cases h), fun _ => hc⟩
    simp only [List.mem_toArray, List.mem_cons, List.not_mem_nil, or_false] at hf
    rcases hf with rfl | rfl | rfl | rfl | rfl | rfl | rfl | rfl | rfl
    all_goals first | (refine Opens.mono (Q' := FieldQ w _) (hi _ rfl) ?_; intro cs h; exact h) | (refine Opens.mono (Q' := FieldQ w _) (hs _ rfl) ?_; intro cs h; exact h))
  refine Opens.mono h ?_
  rintro cs ⟨hl, hf⟩
  obtain ⟨a, b, c, d, e, f, g, i, j, rfl⟩ := list9 hl
  simp only [List.mem_toArray, List.mem_cons, List.not_mem_nil, or_false, forall_eq_or_imp, forall_eq, FieldQ, c_int, c_ints, List.drop_zero, List.drop_succ_cons, List.take_succ_cons, List.take_zero, forall_const, true_and, and_true, reduceCtorEq, Nat.reduceEqDiff, false_implies] at hf
  obtain ⟨⟨x1, w1, e1⟩, ⟨x2, w2, e2⟩, ⟨x3, w3, e3⟩, ⟨x4, e4, w4⟩, ⟨x5, w5, e5⟩, ⟨x6, w6, e6⟩, ⟨x7, w7, e7⟩, ⟨x8, e8, w8⟩, ⟨x9, e9, w9⟩⟩ := hf
  simp only [List.cons.injEq, and_true] at e1 e2 e3 e4 e5 e6 e7 e8 e9
  subst e1 e2 e3 e4 e5 e6 e7 e8 e9
  exact ⟨⟨x1, x2, x3, x4, x5, x6, x7, x8, x9⟩, rfl, w4, w8, w9, wf_i64' w1, wf_i64' w2, wf_i64' w3, wf_i64' w5, wf_i64' w6, wf_i64' w7⟩

theorem opens_graph (w : World) : Opens Try.prog w 24 fun cs => ∃ g : GraphV, cs = [.slice g.base g.l.length g.cap, .int .i64 g.out] ∧ g.raw w := by
  have hns := opens_slice (P := Try.prog) (w := w) (k := 9) Try.underlying22 (by kernel_rfl) (opens_node w)
  have h := opens_struct (P := Try.prog) (w := w) (k := 2) (Q := fun f cs => (f.type = 3 → ∃ i, (Lit.int .i64 i).wf = true ∧ cs = [.int .i64 i]) ∧ (f.type = 22 → SliceQ w 9 (fun cs => ∃ n : NodeV, cs = n.cells ∧ n.raw w) cs)) Try.underlying24 (by kernel_rfl) (by
    intro f hf
    simp only [List.mem_toArray, List.mem_cons, List.not_mem_nil, or_false] at hf
    rcases hf with rfl | rfl
    · exact Opens.mono hns fun cs hc => ⟨fun h => (by cases h), fun _ => hc⟩
    · exact Opens.mono (opens_int Try.underlying3) fun cs hc => ⟨fun _ => hc, fun h => (by cases h)⟩)
  refine Opens.mono h ?_
  rintro cs ⟨hl, hf⟩
  obtain ⟨a, b, rfl⟩ := list2 hl
  have c_nodes : Try.prog.cellsOf 22 = 1 := by kernel_rfl
  simp only [List.mem_toArray, List.mem_cons, List.not_mem_nil, or_false, forall_eq_or_imp, forall_eq, c_int, c_nodes, List.drop_zero, List.drop_succ_cons, List.take_succ_cons, List.take_zero, forall_const, true_and, and_true, reduceCtorEq, Nat.reduceEqDiff, false_implies] at hf
  obtain ⟨⟨base, cap, xs, e1, hr, hx, _⟩, x2, w2, e2⟩ := hf
  obtain ⟨l, rfl, hall⟩ := list_map_of (f := NodeV.cells) (p := fun n => n.raw w) fun r hr => by obtain ⟨n, hn, hn'⟩ := (hx r hr).2; exact ⟨n, hn', hn⟩
  simp only [List.cons.injEq, and_true] at e1 e2
  subst e1 e2
  exact ⟨⟨base, cap, l, x2⟩, by simp, hr, hall, wf_i64' w2⟩
theorem lawChecks_any (w : World) (g : GraphV) (hg : g.raw w) : Calls Try.prog 3 #[g.val] w fun e w' => e = .returned (.bool true) ∧ Ext w w' := by
  by_cases er : (check g).1 = 0
  · refine calls_of tab tabOk Try.func3 rfl rfl rfl [] (fun _ => ⟨none, 0⟩) [.agg [.c (.slice g.base g.l.length g.cap), .c (.int .i64 g.out)]] [] (baseA w) 0 rfl rfl (by show 1 ≤ _; decide) (abs_base w) ?_
    (repeat' ((conv => whnf) <;> first | (show callK _ 15 _ _ _ _ _; (refine call_pure (f := 15) Try.call15 (.bool true) (fun ρ w' hw => fixed_any w') ?_)) | (show callK _ 16 _ _ _ _ _; ((refine call_bool (f := 16) Try.call16 _ (fun ρ w' hw => few_any w' g (holds_of_abs hw fun R h => hg.later h)) ?_ ?_ <;> intro hf))) | (show callK _ 17 _ _ _ _ _; (refine call_check (f := 17) (check g) Try.call17 (fun ρ w' hw => check_any w' g (holds_of_abs hw fun R h => (raw_ok hg hf).later h)) (fun h => absurd er h) (fun _ sv hm hs => ?_))) | (show callK _ 18 _ _ _ _ _; (refine call_check (f := 18) (check g) Try.call18 (fun ρ w' hw => refCheck_any w' g (holds_of_abs hw fun R h => (raw_ok hg hf).later h.1)) (fun h => absurd er h) (fun _ tv hm2 hs2 => ?_))) | (show @cmpK _ _ _; (refine cmp_yes rfl ?_)) | (show callK _ 19 _ _ _ _ _; (refine call_pure (f := 19) Try.call19 (.bool true) (fun ρ w' hw => sameShapes_any w' sv tv (holds_of_abs hw fun R h => shapesD_ok er hm hs h.1.2) (holds_of_abs hw fun R h => shapesD_ok er hm2 hs2 h.2) (hm.trans hm2.symm)) ?_)) | (show Wp _ _ _ _ _ _ _; (refine Wp.go tabOk rfl ?_)) | (show @cmpK _ _ _; (first | refine cmp_yes (by omega) ?_ | refine cmp_no (by omega) ?_ | (refine cmp_both ?_ ?_ <;> intro _))) | (show wrapK _ _ _; (refine wrap_i64 (by omega) (by omega) ?_)) | (show leK _ _ _; (refine le_of (by first | exact Nat.le_refl _ | omega) ?_)) | (show roomK _ _ _; (refine room_of (by first | omega | (dsimp only; omega)) ?_)) | (show ltK _ _ _; (refine lt_of (by omega) ?_)) | (show _ ∧ _; (refine ⟨?_, ?_⟩)) | (show keepK _ _ _ _ _; (refine keep_of (by first | exact List.Sublist.refl _ | exact List.Sublist.cons _ (List.Sublist.refl _) | exact List.Sublist.cons _ (List.Sublist.cons _ (List.Sublist.refl _)) | exact List.Sublist.cons _ (List.Sublist.cons _ (List.Sublist.cons _ (List.Sublist.refl _)))) (by first | exact (fun _ _ h => h) | exact (fun _ _ h => h.1) | exact (fun _ _ h => h.1.1)) ?_)) | (show ownK _ _ _ _ _; (refine own_keep ?_))))
    all_goals (conv => whnf)
    · exact ends_bool (B := ⟨w, []⟩) (S := ((baseA w).and ((shapesD sv).past w.heap.size)).and ((shapesD tv).past w.heap.size)) (fun R w' h => h.1.1) rfl rfl
    · exact ends_bool (fun R w' h => h) rfl rfl
  · refine calls_of tab tabOk Try.func3 rfl rfl rfl [] (fun _ => ⟨none, 0⟩) [.agg [.c (.slice g.base g.l.length g.cap), .c (.int .i64 g.out)]] [] (baseA w) 0 rfl rfl (by show 1 ≤ _; decide) (abs_base w) ?_
    (repeat' ((conv => whnf) <;> first | (show callK _ 15 _ _ _ _ _; (refine call_pure (f := 15) Try.call15 (.bool true) (fun ρ w' hw => fixed_any w') ?_)) | (show callK _ 16 _ _ _ _ _; ((refine call_bool (f := 16) Try.call16 _ (fun ρ w' hw => few_any w' g (holds_of_abs hw fun R h => hg.later h)) ?_ ?_ <;> intro hf))) | (show callK _ 17 _ _ _ _ _; (refine call_check (f := 17) (check g) Try.call17 (fun ρ w' hw => check_any w' g (holds_of_abs hw fun R h => (raw_ok hg hf).later h)) (fun _ => ?_) (fun h => absurd h er))) | (show callK _ 18 _ _ _ _ _; (refine call_check (f := 18) (check g) Try.call18 (fun ρ w' hw => refCheck_any w' g (holds_of_abs hw fun R h => (raw_ok hg hf).later h)) (fun _ => ?_) (fun h => absurd h er))) | (show @cmpK _ _ _; (refine cmp_yes rfl ?_)) | (show callK _ 19 _ _ _ _ _; (refine call_pure (f := 19) Try.call19 (.bool true) (fun ρ w' hw => sameShapes_any w' ⟨none, 0, []⟩ ⟨none, 0, []⟩ ⟨.inl rfl, by simp, by simp⟩ ⟨.inl rfl, by simp, by simp⟩ rfl) ?_)) | (show Wp _ _ _ _ _ _ _; (refine Wp.go tabOk rfl ?_)) | (show @cmpK _ _ _; (first | refine cmp_yes (by omega) ?_ | refine cmp_no (by omega) ?_ | (refine cmp_both ?_ ?_ <;> intro _))) | (show wrapK _ _ _; (refine wrap_i64 (by omega) (by omega) ?_)) | (show leK _ _ _; (refine le_of (by first | exact Nat.le_refl _ | omega) ?_)) | (show roomK _ _ _; (refine room_of (by first | omega | (dsimp only; omega)) ?_)) | (show ltK _ _ _; (refine lt_of (by omega) ?_)) | (show _ ∧ _; (refine ⟨?_, ?_⟩)) | (show keepK _ _ _ _ _; (refine keep_of (by first | exact List.Sublist.refl _ | exact List.Sublist.cons _ (List.Sublist.refl _) | exact List.Sublist.cons _ (List.Sublist.cons _ (List.Sublist.refl _)) | exact List.Sublist.cons _ (List.Sublist.cons _ (List.Sublist.cons _ (List.Sublist.refl _)))) (by first | exact (fun _ _ h => h) | exact (fun _ _ h => h.1) | exact (fun _ _ h => h.1.1)) ?_)) | (show ownK _ _ _ _ _; (refine own_keep ?_))))
    all_goals exact ends_bool (fun R w' h => h) rfl rfl
set_option maxRecDepth 100000 in
theorem checks_lifted (os : Os) (started : os.Started) (H : Type) (enc : TypeId × Value → H) :
    ReturnsInHanded {} Try.checked os 3 .any (Rows.graphChecksSpec.pre6 enc Try.prog Try.f3 Rows.graphChecksRow.domain false) (Rows.graphChecksSpec.post enc Try.prog Try.f3 false true false false) := by
  refine returnsInHanded_of_change (C := Try.checked) own started (by kernel_rfl) Try.func3
    (ChangeSpec.witness6 (enc := enc) (C := Try.checked) false ⟨#[], #[.agg #[.slice none 0 0, .int .i64 0]], []⟩ 8 (by kernel_rfl) (by kernel_rfl) (by kernel_rfl) (by kernel_rfl)) ?_
  intro W base args ds gs before hval0 hW hcnd _
  have hval : ∀ (j : Nat) t v, Try.f3.params[j]? = some t → args[j]? = some v → Value.okWide Try.prog W .any base t v := hval0
  have hW' := hW
  obtain ⟨p, q, hA0, hV, rfl, hfz, hnd⟩ := hW
  have hA : DataW.TrodAll enc Try.prog W 0 (fun _ => true) true Try.f3.params.toList args.toList ds p := hA0
  rw [Try.params3] at hA hval
  obtain ⟨v0, d0, rfl, rfl, h0⟩ := trodAll_one hA
  obtain ⟨g, hv0, hg⟩ := opens_of (opens_graph W) h0
  obtain rfl : v0 = g.val := cells_agg Try.underlying24 (hval 0 24 v0 rfl rfl) hv0
  exact law_contract laidOut (by kernel_rfl) rfl rfl Try.underlying4 rfl hW' (lawChecks_any W g hg)
/-- GraphChecks: for every graph the law returns true, and the graph reads as before; no condition. -/
theorem graphChecks_holds : Rows.GraphChecksSaid :=
  OpenClaim.holds_of_wide 3 Try.f3 rfl rfl rfl rfl rfl rfl rfl ⟨rfl, rfl, rfl, rfl, rfl⟩ rfl rfl rfl rfl rfl (by kernel_rfl) Try.func3 (by kernel_rfl)
    (of_decide_eq_true (by kernel_rfl)) (by unfold Func.isWrapper; first | (rw [if_pos (by decide +kernel)]; kernel_rfl) | (rw [if_neg (by decide +kernel)]; exact ⟨rfl, rfl⟩))
    (fun os started H enc _ => checks_lifted os started H enc)
end Go.Proofs.Ytajbngkcgbehlaa
