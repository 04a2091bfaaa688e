import Derived.Test.YtdmkdogakbipbaaKTidyMakes9
/- JR -/
namespace Go.Proofs.Ytdmkdogakbipbaa
open Go.SX Go.RowKit
def rpts (d : List Int) (a : Sp) : Nat → List Int
  | 0 => []
  | k + 1 => rpts d a k ++ (if a.1 ≤ turnI d + ((k : Int) - 2) ∧ turnI d + ((k : Int) - 2) ≤ a.2 then [powI d (turnI d + ((k : Int) - 2))] else [])
theorem mem_rpts {d : List Int} {a : Sp} {x : Int} : ∀ {m : Nat}, x ∈ rpts d a m ↔ ∃ k, k < m ∧ (a.1 ≤ turnI d + ((k : Int) - 2) ∧ turnI d + ((k : Int) - 2) ≤ a.2) ∧ x = powI d (turnI d + ((k : Int) - 2))
  | 0 => by simp [rpts]
  | m + 1 => by
    unfold rpts
    rw [List.mem_append, mem_rpts]
    constructor
    · rintro (⟨k, h1, h2⟩ | h)
      · exact ⟨k, by omega, h2⟩
      · split at h
        · rename_i hc
          exact ⟨m, by omega, hc, by simpa using h⟩
        · simp at h
    · rintro ⟨k, h1, h2, h3⟩
      rcases Nat.lt_or_ge k m with hk | hk
      · exact .inl ⟨k, hk, h2, h3⟩
      · obtain rfl : k = m := by omega
        right
        rw [if_pos h2, h3]
        simp
theorem rpts_len (d : List Int) (a : Sp) : ∀ m, (rpts d a m).length ≤ m
  | 0 => by simp [rpts]
  | m + 1 => by
    have := rpts_len d a m
    unfold rpts
    rw [List.length_append]
    split <;> simp <;> omega
def rends (d : List Int) (a : Sp) : List Int := [powI d a.1, powI d a.2] ++ rpts d a 5
theorem pow_sub {d : List Int} {a : Sp} (hz : d.getD 2 0 ≠ 0) {x : Int} (h : x ∈ powEnds d a) : x ∈ rends d a := by
  unfold powEnds at h
  rw [if_neg hz] at h
  unfold rends
  rcases List.mem_append.1 h with h | h
  · exact List.mem_append_left _ h
  · refine List.mem_append_right _ (mem_rpts.2 ?_)
    obtain ⟨v, hv, rfl⟩ := List.mem_map.1 h
    rw [mem_ptsL] at hv
    unfold hiI loI at hv
    refine ⟨(v - turnI d + 2).toNat, by omega, ?_⟩
    have e : turnI d + (((v - turnI d + 2).toNat : Int) - 2) = v := by omega
    rw [e]
    exact ⟨⟨by omega, by omega⟩, rfl⟩
theorem pow_span {d : List Int} {a : Sp} (hz : d.getD 2 0 ≠ 0) : spanE (rends d a) = spanE (powEnds d a) := by
  have hl1 : 1 ≤ (rends d a).length := by simp [rends]
  have hl2 : 1 ≤ (powEnds d a).length := List.length_pos_of_mem powEnds_lo
  have key : ∀ x ∈ rends d a, foldI min (powEnds d a) ≤ x ∧ x ≤ foldI max (powEnds d a) := fun x hx => by
    unfold rends at hx
    rcases List.mem_append.1 hx with hx | hx
    · simp only [List.mem_cons, List.not_mem_nil, or_false] at hx
      rcases hx with rfl | rfl
      · exact ⟨foldI_min_le powEnds_lo, foldI_max_ge powEnds_lo⟩
      · exact ⟨foldI_min_le powEnds_hi, foldI_max_ge powEnds_hi⟩
    · obtain ⟨k, _, h2, rfl⟩ := mem_rpts.1 hx
      exact pow_within h2.1 h2.2
  unfold spanE
  rw [Prod.mk.injEq]
  exact ⟨Int.le_antisymm (foldI_min_le (pow_sub hz (foldI_min_mem hl2))) (key _ (foldI_min_mem hl1)).1, Int.le_antisymm (key _ (foldI_max_mem hl1)).2 (foldI_max_ge (pow_sub hz (foldI_max_mem hl2)))⟩
theorem endsL_pow {n : NodeV} (hk : n.kind = 8) (a b : Sp) : endsL n a b = powEnds n.data.xs a := by
  unfold endsL powEnds
  rw [if_neg (by omega), if_neg (by omega), if_neg (by omega), if_neg (by omega), if_pos hk]
theorem powI_fit {d : List Int} (hd : ∀ x ∈ d, bd20 x) {v : Int} (hv : bd20 v) : i64 (powI d v) := by
  have h := pow_bd (getD_bd hd 2) (getD_bd hd 1) (getD_bd hd 0) hv
  have h0 := getD_bd hd 0
  unfold bd20 at h0
  unfold powI i64
  omega
theorem div_q {x y q : Int} {K : Int → Prop} (e : x.tdiv y = q) (hy : y ≠ 0) (hx : -4611686018427387904 ≤ x ∧ x ≤ 4611686018427387904) (h : K q) : divK .i64 x y K := by
  subst e; exact div_i64 hy hx h
set_option maxRecDepth 20000 in
set_option maxHeartbeats 4000000 in
theorem span_pow (w : World) (n : NodeV) (sv : ShapesV) (b2 : Option Addr) (c2 : Nat) (acc : List Sp) (b : Sp) (hk : n.kind = 8) (hno : n.ok w) (nd : ∀ x ∈ n.data.xs, bd20 x) (h8 : n.data.xs.length = 3) (ha0 : 0 ≤ n.a) (hacc : RowsI w b2 2 (spRows acc)) (hlt : n.a.toNat < acc.length) (hbd : bd20 (acc.getD n.a.toNat (0, 0)).1 ∧ bd20 (acc.getD n.a.toNat (0, 0)).2) : Calls Try.prog 84 #[n.valA, sv.val, .slice b2 acc.length c2] w fun e w' => e = .returned (spanV (spanE (endsL n (acc.getD n.a.toNat (0, 0)) b))) ∧ Ext w w' := by
  have hlinC : ∀ w', Calls Try.prog 85 #[.int .i64 n.kind] w' fun e w'' => e = .returned (.bool false) ∧ Ext w' w'' := fun w' => lin_no w' (by omega)
  have hna : n.a = (n.a.toNat : Int) := (Int.toNat_of_nonneg ha0).symm
  have hd := hno.data
  obtain ⟨a2, ha2⟩ : ∃ a, b2 = some a := base_some (j := n.a.toNat) hacc (by rw [spRows_length]; exact hlt)
  obtain ⟨ua, hua⟩ := hd.base (by omega)
  have hur : ∀ (R : Nat → Prop) w', (baseA w).holds R w' → RowsI w' (some ua) 1 (ints n.data.xs) := fun R w' h => by rw [← hua]; exact rows_base h hd.rows
  have hrowA := spRows_getD hlt
  rw [endsL_pow hk]
  generalize acc.getD n.a.toNat (0, 0) = a at *
  obtain ⟨p1, p2⟩ := hbd
  have g0 := getD_bd nd 0
  have g1 := getD_bd nd 1
  have g2 := getD_bd nd 2
  have hpw : ∀ v, powI n.data.xs v = n.data.xs.getD 2 0 * v * v + n.data.xs.getD 1 0 * v + n.data.xs.getD 0 0 := fun _ => rfl
  have hfit : ∀ v, bd20 v → i64 (powI n.data.xs v) := fun v hv => powI_fit nd hv
  have hps := pow_span (d := n.data.xs) (a := a)
  have hrl := rpts_len n.data.xs a
  have hT : turnI n.data.xs = (0 - n.data.xs.getD 1 0).tdiv (2 * n.data.xs.getD 2 0) := rfl
  have hTb : -1048576 ≤ turnI n.data.xs ∧ turnI n.data.xs ≤ 1048576 := by
    have h1 : ((0 - n.data.xs.getD 1 0).tdiv (2 * n.data.xs.getD 2 0)).natAbs ≤ (0 - n.data.xs.getD 1 0).natAbs := by rw [Int.natAbs_tdiv]; exact Nat.div_le_self _ _
    rw [hT]
    unfold bd20 at g1
    omega
  generalize hd0 : n.data.xs.getD 0 0 = d0 at *
  generalize hd1 : n.data.xs.getD 1 0 = d1 at *
  generalize hd2 : n.data.xs.getD 2 0 = d2 at *
  have hpc : ∀ v w', bd20 v → Calls Try.prog 86 #[.int .i64 d0, .int .i64 d1, .int .i64 d2, .int .i64 v] w' fun e w'' => e = .returned (.int .i64 (powI n.data.xs v)) ∧ Ext w' w'' := fun v w' hv => by rw [hpw]; exact rpower_any w' d0 d1 d2 v g0 g1 g2 hv
  have hpe : ∀ hz : d2 = 0, powEnds n.data.xs a = [powI n.data.xs a.1, powI n.data.xs a.2] := fun hz => by unfold powEnds; rw [hd2, if_pos hz]
  clear hpw
  refine calls_of tab tabOk Try.func84 rfl rfl rfl [] (fun _ => ⟨none, 0⟩) [.agg [.c (.int .i64 n.kind), .c (.int .i64 n.a), .c (.int .i64 n.b), .c n.shape.val, .c (.int .i64 n.lo), .c (.int .i64 n.hi), .c (.int .i64 n.size), .c n.data.val, .c n.bias.val], .c sv.val, .c (.slice b2 acc.length c2)] [] (baseA w) 0 rfl rfl (by show 3 ≤ _; decide) (abs_base w) ?_
  by_cases hz : d2 = 0
  · rw [hpe hz]
    (repeat' ((conv => whnf) <;> first | (show callK _ 85 _ _ _ _ _; refine call_pure (f := 85) Try.call85 (.bool false) (fun ρ w' hw => hlinC w') ?_) | (show idxK _ _ _ _ _; (first | refine idx_of a2 n.a.toNat ha2 hna hlt ?_ | refine idx_of ua 0 hua rfl (by omega) ?_ | refine idx_of ua 1 hua rfl (by omega) ?_ | refine idx_of ua 2 hua rfl (by omega) ?_)) | (show roAggK _ _ _ _; (refine roAgg_row (fun R w' h => by rw [← ha2]; exact rows_base h hacc) _ hrowA rfl ?_)) | (show roK _ _ _; (first | refine ro_intv hur (j := 0) (by omega) hd0 ?_ | refine ro_intv hur (j := 1) (by omega) hd1 ?_ | refine ro_intv hur (j := 2) (by omega) hd2 ?_)) | (show callK _ 86 [.c (.int .i64 d0), .c (.int .i64 d1), .c (.int .i64 d2), .c (.int .i64 a.1)] _ _ _ _; refine call_pure (f := 86) Try.call86 (.int .i64 (powI n.data.xs a.1)) (fun ρ w' hw => hpc a.1 w' p1) ?_) | (show callK _ 86 [.c (.int .i64 d0), .c (.int .i64 d1), .c (.int .i64 d2), .c (.int .i64 a.2)] _ _ _ _; refine call_pure (f := 86) Try.call86 (.int .i64 (powI n.data.xs a.2)) (fun ρ w' hw => hpc a.2 w' p2) ?_) | (show ownK _ _ _ _ _; (refine freeze_intsI (w0 := w) [powI n.data.xs a.1, powI n.data.xs a.2] (fun R w' h => h) rfl rfl (fun x hx => by simp only [List.mem_cons, List.not_mem_nil, or_false] at hx; rcases hx with rfl | rfl; exact hfit _ p1; exact hfit _ p2) (by simp) (fun u hu hus => ?_))) | (show callK _ 108 _ _ _ _ _; (refine call_pure (f := 108) Try.call108 (spanV (spanE [powI n.data.xs a.1, powI n.data.xs a.2])) (fun ρ w' hw => hu ▸ cover_any w' u (holds_of_abs hw fun R h => intsA_ok hus ((intsA u).mono h.2 (fun b hb => hb.1))) (by rw [hu]; simp)) ?_)) | (show drawK _ 28 _ _ _ _ _ _; refine draw_tree tabOk mixed [16] _ dtJP1 (by kernel_rfl) (by kernel_rfl) (by kernel_rfl) (List.Sublist.refl _) ?_) | (show drawK _ 31 _ _ _ _ _ _; refine draw_tree tabOk mixed [] _ dtJP2 (by kernel_rfl) (by kernel_rfl) (by kernel_rfl) (List.Sublist.refl _) ?_) | (show drawK _ _ _ _ _ _ _ _; refine draw_quiet tabOk mixed (by kernel_rfl) ?_) | (show Wp _ _ _ _ _ _ _; refine Wp.go tabOk rfl ?_) | (show @cmpK _ _ _; (first | refine cmpY ?_ | refine cmpN ?_ | (refine cmp_both ?_ ?_ <;> intro _))) | (show wrapK _ _ _; refine wrapA ?_) | (show leK _ _ _; refine leA ?_) | (show roomK _ _ _; refine roomA ?_) | (show ltK _ _ _; refine ltA ?_) | (show _ ∧ _; refine ⟨?_, ?_⟩) | (show keepK _ _ _ _ _; refine keepA ?_) | refine own_keep ?_ | refine ap_old ?_))
    all_goals (conv => whnf)
    all_goals exact ends_of (fun _ _ h => h.1) (fun _ => rfl) rfl
  · rw [← hps hz]
    (repeat' ((conv => whnf) <;> first | (show callK _ 85 _ _ _ _ _; refine call_pure (f := 85) Try.call85 (.bool false) (fun ρ w' hw => hlinC w') ?_) | (show idxK _ _ _ _ _; (first | refine idx_of a2 n.a.toNat ha2 hna hlt ?_ | refine idx_of ua 0 hua rfl (by omega) ?_ | refine idx_of ua 1 hua rfl (by omega) ?_ | refine idx_of ua 2 hua rfl (by omega) ?_)) | (show roAggK _ _ _ _; (refine roAgg_row (fun R w' h => by rw [← ha2]; exact rows_base h hacc) _ hrowA rfl ?_)) | (show roK _ _ _; (first | refine ro_intv hur (j := 0) (by omega) hd0 ?_ | refine ro_intv hur (j := 1) (by omega) hd1 ?_ | refine ro_intv hur (j := 2) (by omega) hd2 ?_)) | (show callK _ 86 [.c (.int .i64 d0), .c (.int .i64 d1), .c (.int .i64 d2), .c (.int .i64 a.1)] _ _ _ _; refine call_pure (f := 86) Try.call86 (.int .i64 (powI n.data.xs a.1)) (fun ρ w' hw => hpc a.1 w' p1) ?_) | (show callK _ 86 [.c (.int .i64 d0), .c (.int .i64 d1), .c (.int .i64 d2), .c (.int .i64 a.2)] _ _ _ _; refine call_pure (f := 86) Try.call86 (.int .i64 (powI n.data.xs a.2)) (fun ρ w' hw => hpc a.2 w' p2) ?_) | (show drawK _ 28 _ _ _ _ _ _; refine draw_tree tabOk mixed [16] _ dtJP1 (by kernel_rfl) (by kernel_rfl) (by kernel_rfl) (List.Sublist.refl _) ?_) | (show drawK _ 31 _ _ _ _ _ _; refine draw_tree tabOk mixed [] _ dtJP2 (by kernel_rfl) (by kernel_rfl) (by kernel_rfl) (List.Sublist.refl _) ?_) | (show drawK _ _ _ _ _ _ _ _; refine draw_quiet tabOk mixed (by kernel_rfl) ?_) | (show Wp _ _ _ _ _ _ _; refine Wp.go tabOk rfl ?_) | (show @cmpK _ _ _; (first | refine cmpY ?_ | refine cmpN ?_ | (refine cmp_both ?_ ?_ <;> intro _))) | (show wrapK _ _ _; refine wrapA ?_) | (show leK _ _ _; refine leA ?_) | (show roomK _ _ _; refine roomA ?_) | (show ltK _ _ _; refine ltA ?_) | (show _ ∧ _; refine ⟨?_, ?_⟩) | (show keepK _ _ _ _ _; refine keepA ?_) | refine own_keep ?_ | refine ap_old ?_))
    all_goals (conv => whnf)
    have p1' := p1
    have p2' := p2
    unfold bd20 at p1' p2' g1 g2
    refine Wp.loop (σ := Nat × Int × Nat) 5 (fun ⟨k, d, m⟩ => [(6, .lp 1 0 0 0), (7, .lp 2 0 0 0), (18, .c (.int .i64 d0)), (19, .c (.int .i64 d1)), (20, .c (.int .i64 d2)), (21, .os 4 m), (22, .c (.int .i64 d))]) (fun ⟨k, d, m⟩ => [(4, .rows (ints ([powI n.data.xs a.1, powI n.data.xs a.2] ++ rpts n.data.xs a k)) 1 3), (2, .box [.c (.int .i64 a.1), .c (.int .i64 a.2)] 68), (1, .box [.c (.int .i64 0), .c (.int .i64 0)] 68)]) (fun _ => baseA w)
      (fun ⟨k, d, m⟩ => k ≤ 5 ∧ d = (k : Int) - 2 ∧ m = ([powI n.data.xs a.1, powI n.data.xs a.2] ++ rpts n.data.xs a k).length) (fun s => 5 - s.1) (0, -2, 2) [(4, some 3)] (by decide) (fun s => ⟨rfl, rfl⟩) ⟨by decide, rfl, rfl⟩ ⟨rfl, ⟨rfl, rfl, rfl, rfl, rfl, rfl, rfl, trivial⟩, ⟨(by repeat (first | exact List.mem_cons_self | apply List.mem_cons_of_mem)), (by repeat (first | exact List.mem_cons_self | apply List.mem_cons_of_mem)), (by repeat (first | exact List.mem_cons_self | apply List.mem_cons_of_mem)), trivial⟩, fun _ _ h => h⟩ ?_
    rintro ⟨k, d, m⟩ ⟨hk5, hdk, hm⟩
    have hrl2 := hrl k
    by_cases hkl : k < 5
    · have hrs : rpts n.data.xs a (k + 1) = rpts n.data.xs a k ++ (if a.1 ≤ turnI n.data.xs + d ∧ turnI n.data.xs + d ≤ a.2 then [powI n.data.xs (turnI n.data.xs + d)] else []) := by rw [hdk]; rfl
      have hm7 : m ≤ 7 := by rw [hm]; simp; omega
      (repeat' ((conv => whnf) <;> first | (show divK _ _ _ _; refine div_q hT.symm (by omega) (by omega) ?_) | (show callK _ 86 _ _ _ _ _; refine call_pure (f := 86) Try.call86 (.int .i64 (powI n.data.xs (turnI n.data.xs + d))) (fun ρ w' hw => hpc (turnI n.data.xs + d) w' ⟨by omega, by omega⟩) ?_) | (show leK _ _ _; (refine le_of (by rw [ints_length, hm]; exact Nat.le_refl _) ?_)) | (show roomK _ _ _; (refine room_of (by show (m + 1) * 8 ≤ 140737488355328; omega) ?_)) | (show drawK _ 28 _ _ _ _ _ _; refine draw_tree tabOk mixed [16] _ dtJP1 (by kernel_rfl) (by kernel_rfl) (by kernel_rfl) (List.Sublist.refl _) ?_) | (show drawK _ 31 _ _ _ _ _ _; refine draw_tree tabOk mixed [] _ dtJP2 (by kernel_rfl) (by kernel_rfl) (by kernel_rfl) (List.Sublist.refl _) ?_) | (show drawK _ _ _ _ _ _ _ _; refine draw_quiet tabOk mixed (by kernel_rfl) ?_) | (show Wp _ _ _ _ _ _ _; refine Wp.go tabOk rfl ?_) | (show @cmpK _ _ _; (first | refine cmpY ?_ | refine cmpN ?_ | (refine cmp_both ?_ ?_ <;> intro _))) | (show wrapK _ _ _; refine wrapA ?_) | (show leK _ _ _; refine leA ?_) | (show roomK _ _ _; refine roomA ?_) | (show ltK _ _ _; refine ltA ?_) | (show _ ∧ _; refine ⟨?_, ?_⟩) | (show keepK _ _ _ _ _; refine keepA ?_) | refine own_keep ?_ | refine ap_old ?_))
      all_goals (conv => whnf)
      all_goals first | exact ⟨(k + 1, _, m + 1), [(4, some 6)], ⟨hkl, by omega, by rw [hrs, if_pos ⟨by omega, by omega⟩, ← List.append_assoc, List.length_append, ← hm]; rfl⟩, by simp only; omega, rfl, ⟨rfl, rfl, rfl, rfl, rfl, rfl, rfl, trivial⟩, ⟨by
        show (6, Ent.rows (ints ([powI n.data.xs a.1, powI n.data.xs a.2] ++ rpts n.data.xs a (k + 1))) 1 3) ∈ _
        rw [hrs, if_pos ⟨by omega, by omega⟩, ← List.append_assoc]; exact ints_snocM _ _ hm, (by repeat (first | exact List.mem_cons_self | apply List.mem_cons_of_mem)), (by repeat (first | exact List.mem_cons_self | apply List.mem_cons_of_mem)), trivial⟩, fun _ _ h => h⟩ | exact ⟨(k + 1, _, m), [(4, some 4)], ⟨hkl, by omega, by rw [hrs, if_neg (by omega), List.append_nil]; exact hm⟩, by simp only; omega, rfl, ⟨rfl, rfl, rfl, rfl, rfl, rfl, rfl, trivial⟩, ⟨by
        show (4, Ent.rows (ints ([powI n.data.xs a.1, powI n.data.xs a.2] ++ rpts n.data.xs a (k + 1))) 1 3) ∈ _
        rw [hrs, if_neg (by omega), List.append_nil]; exact (by repeat (first | exact List.mem_cons_self | apply List.mem_cons_of_mem)), (by repeat (first | exact List.mem_cons_self | apply List.mem_cons_of_mem)), (by repeat (first | exact List.mem_cons_self | apply List.mem_cons_of_mem)), trivial⟩, fun _ _ h => h⟩
    · have hkz : k = 5 := by omega
      subst hkz
      subst hm
      refine Wp.freezeN 4 w.heap.size (k := 1) (xs := ints (rends n.data.xs a)) (T := 3) (by repeat (first | exact List.mem_cons_self | apply List.mem_cons_of_mem)) (fun R w' h b hb => (h b hb).1) (fun l1 hl1 => ?_)
      rw [ints_length] at hl1
      have hfits : ∀ x ∈ rends n.data.xs a, i64 x := fun x hx => by
        unfold rends at hx
        rcases List.mem_append.1 hx with hx | hx
        · simp only [List.mem_cons, List.not_mem_nil, or_false] at hx
          rcases hx with rfl | rfl
          · exact hfit _ p1
          · exact hfit _ p2
        · obtain ⟨k, _, h2, rfl⟩ := mem_rpts.1 hx
          exact hfit _ ⟨by omega, by omega⟩
      (repeat' ((conv => whnf) <;> first | (show callK _ 108 _ _ _ _ _; (refine call_pure (f := 108) Try.call108 (spanV (spanE (rends n.data.xs a))) (fun ρ w' hw => cover_any w' ⟨l1.base, l1.cap, rends n.data.xs a⟩ (holds_of_abs hw fun R h => ⟨rowsA_in h.2, hfits, hl1, by simp only [rends]; simp; omega⟩) (by simp [rends])) ?_)) | (show drawK _ 28 _ _ _ _ _ _; refine draw_tree tabOk mixed [16] _ dtJP1 (by kernel_rfl) (by kernel_rfl) (by kernel_rfl) (List.Sublist.refl _) ?_) | (show drawK _ 31 _ _ _ _ _ _; refine draw_tree tabOk mixed [] _ dtJP2 (by kernel_rfl) (by kernel_rfl) (by kernel_rfl) (List.Sublist.refl _) ?_) | (show drawK _ _ _ _ _ _ _ _; refine draw_quiet tabOk mixed (by kernel_rfl) ?_) | (show Wp _ _ _ _ _ _ _; refine Wp.go tabOk rfl ?_) | (show @cmpK _ _ _; (first | refine cmpY ?_ | refine cmpN ?_ | (refine cmp_both ?_ ?_ <;> intro _))) | (show wrapK _ _ _; refine wrapA ?_) | (show leK _ _ _; refine leA ?_) | (show roomK _ _ _; refine roomA ?_) | (show ltK _ _ _; refine ltA ?_) | (show _ ∧ _; refine ⟨?_, ?_⟩) | (show keepK _ _ _ _ _; refine keepA ?_) | refine own_keep ?_ | refine ap_old ?_))
      all_goals (conv => whnf)
      all_goals exact ends_of (fun _ _ h => h.1) (fun _ => rfl) rfl
end Go.Proofs.Ytdmkdogakbipbaa

/- JW -/
namespace Go.Proofs.Ytdmkdogakbipbaa
open Go.SX Go.RowKit
set_option maxRecDepth 20000 in
set_option maxHeartbeats 4000000 in
theorem values_plain (w : World) (n : NodeV) (sv : ShapesV) (kb : Option Addr) (kc : Nat) (kn : List IntsV) (hkr : RowsI w kb 1 (shRows kn)) (a b : IntsV) (cnt : Nat) (h : NumsOk w n cnt a b) (hno : n.ok w) (ha0 : 0 ≤ n.a) (hb0 : 0 ≤ n.b) (h1 : 1 ≤ cnt) (hka : n.kind ≠ 2 → kn[n.a.toNat]? = some a) (hkb : n.kind = 6 → kn[n.b.toNat]? = some b) : Calls Try.prog 55 #[n.valA, sv.val, .slice kb kn.length kc] w (EndsPost w n (numsL n cnt a.xs b.xs)) := by
  have hbd := numAt_bd h
  obtain ⟨hk, hfew, hd, hdb, hco, hsc, hpo, ha, hb, hal, hbl, hab, hbb⟩ := h
  have hlinC : ∀ w', Calls Try.prog 85 #[.int .i64 n.kind] w' fun e w'' => e = .returned (.bool false) ∧ Ext w' w'' := fun w' => lin_no w' (by omega)
  have hna : n.a = (n.a.toNat : Int) := (Int.toNat_of_nonneg ha0).symm
  have hnb : n.b = (n.b.toNat : Int) := (Int.toNat_of_nonneg hb0).symm
  by_cases hk2 : n.kind = 2
  · have hL : numsL n cnt a.xs b.xs = n.data.xs := by
      have hl := hco hk2
      unfold numsL
      apply List.ext_getElem
      · simp [hl]
      · intro i g1 g2
        rw [List.getElem_map, List.getElem_range]
        unfold numAt
        rw [if_pos hk2, List.getD_eq_getElem?_getD, List.getElem?_eq_getElem g2]; rfl
    refine calls_of tab tabOk Try.func55 rfl rfl rfl [] (fun _ => ⟨none, 0⟩) [.agg [.c (.int .i64 n.kind), .c (.int .i64 n.a), .c (.int .i64 n.b), .c n.shape.val, .c (.int .i64 n.lo), .c (.int .i64 n.hi), .c (.int .i64 n.size), .c n.data.val, .c n.bias.val], .c sv.val, .c (.slice kb kn.length kc)] [] (baseA w) 0 rfl rfl (by show 3 ≤ _; decide) (abs_base w) ?_
    (repeat' ((conv => whnf) <;> first | (show drawK _ _ _ _ _ _ _ _; refine draw_quiet tabOk mixed (by kernel_rfl) ?_) | (show Wp _ _ _ _ _ _ _; refine Wp.go tabOk rfl ?_) | (show @cmpK _ _ _; (first | refine cmpY ?_ | refine cmpN ?_ | (refine cmp_both ?_ ?_ <;> intro _))) | (show wrapK _ _ _; refine wrapA ?_) | (show leK _ _ _; refine leA ?_) | (show roomK _ _ _; refine roomA ?_) | (show ltK _ _ _; refine ltA ?_) | (show _ ∧ _; refine ⟨?_, ?_⟩) | (show keepK _ _ _ _ _; refine keepA ?_) | refine own_keep ?_ | refine ap_old ?_))
    all_goals (conv => whnf)
    all_goals exact eends_old (fun _ _ h => h) rfl hd.sane hL.symm
  · have hka := hka hk2
    have hal := hal hk2
    obtain ⟨hkl, hke⟩ := List.getElem?_eq_some_iff.1 hka
    obtain ⟨ka, hkbe⟩ : ∃ a, kb = some a := base_some (j := n.a.toNat) hkr (by rw [shRows_length]; exact hkl)
    have hrowK : (shRows kn)[n.a.toNat]? = some [a.val] := by rw [shRows_get hkl, hke]
    obtain ⟨va, hva⟩ := ha.base (by omega)
    have hvr : ∀ (R : Nat → Prop) w', (baseA w).holds R w' → RowsI w' (some va) 1 (ints a.xs) := fun R w' h => by rw [← hva]; exact rows_base h ha.rows
    refine calls_of tab tabOk Try.func55 rfl rfl rfl [] (fun _ => ⟨none, 0⟩) [.agg [.c (.int .i64 n.kind), .c (.int .i64 n.a), .c (.int .i64 n.b), .c n.shape.val, .c (.int .i64 n.lo), .c (.int .i64 n.hi), .c (.int .i64 n.size), .c n.data.val, .c n.bias.val], .c sv.val, .c (.slice kb kn.length kc)] [] (baseA w) 0 rfl rfl (by show 3 ≤ _; decide) (abs_base w) ?_
    (repeat' ((conv => whnf) <;> first | (show callK _ 85 _ _ _ _ _; refine call_pure (f := 85) Try.call85 (.bool false) (fun ρ w' hw => hlinC w') ?_) | (show idxK _ _ _ _ _; refine idx_of ka n.a.toNat hkbe hna hkl ?_) | (show roK _ _ _; (refine ro_row0 (fun R w' h => by rw [← hkbe]; exact rows_base h hkr) _ _ hrowK rfl ?_)) | (show drawK _ _ _ _ _ _ _ _; refine draw_quiet tabOk mixed (by kernel_rfl) ?_) | (show Wp _ _ _ _ _ _ _; refine Wp.go tabOk rfl ?_) | (show @cmpK _ _ _; (first | refine cmpY ?_ | refine cmpN ?_ | (refine cmp_both ?_ ?_ <;> intro _))) | (show wrapK _ _ _; refine wrapA ?_) | (show leK _ _ _; refine leA ?_) | (show roomK _ _ _; refine roomA ?_) | (show ltK _ _ _; refine ltA ?_) | (show _ ∧ _; refine ⟨?_, ?_⟩) | (show keepK _ _ _ _ _; refine keepA ?_) | refine own_keep ?_ | refine ap_old ?_))
    all_goals (conv => whnf)
    refine Wp.loop (σ := Nat) 2 (fun i => [(2, .c (.slice kb kn.length kc)), (3, .lp 0 0 0 0), (7, .c a.val), (8, .os 1 i), (75, .c a.val), (76, .c (.int .i64 cnt)), (77, .c (.int .i64 i))]) (fun i => [(1, .rows (ints ((List.range i).map (numAt n a.xs b.xs))) 1 3), (0, .box [.c (.int .i64 n.kind), .c (.int .i64 n.a), .c (.int .i64 n.b), .c n.shape.val, .c (.int .i64 n.lo), .c (.int .i64 n.hi), .c (.int .i64 n.size), .c n.data.val, .c n.bias.val] 38)]) (fun _ => baseA w)
      (fun i => i ≤ cnt) (fun i => cnt - i) 0 [(1, none)] (by decide) (fun s => ⟨rfl, rfl⟩) (Nat.zero_le _) ⟨rfl, ⟨rfl, rfl, rfl, rfl, rfl, ?_, rfl, trivial⟩, ⟨rfl, (by repeat (first | exact List.mem_cons_self | apply List.mem_cons_of_mem)), trivial⟩, fun _ _ h => h⟩ ?_
    · rw [← hal]; rfl
    rintro i hi
    have hlen : ((List.range i).map (numAt n a.xs b.xs)).length = i := by simp
    by_cases hlt : i < cnt
    · have hv : bd20 (a.xs.getD i 0) := getD_bd hab i
      have hsn : (List.range (i + 1)).map (numAt n a.xs b.xs) = (List.range i).map (numAt n a.xs b.xs) ++ [numAt n a.xs b.xs i] := by rw [List.range_succ, List.map_append]; rfl
      have hkk : n.kind = 6 ∨ n.kind = 7 ∨ n.kind = 8 ∨ n.kind = 9 := by omega
      rcases hkk with hk6 | hk7 | hk8 | hk9
      · have hN : numAt n a.xs b.xs i = a.xs.getD i 0 + b.xs.getD i 0 := by unfold numAt; rw [if_neg (by omega), if_pos hk6]
        have hkb := hkb hk6
        have hbl := hbl hk6
        obtain ⟨hkl2, hke2⟩ := List.getElem?_eq_some_iff.1 hkb
        have hrowB : (shRows kn)[n.b.toNat]? = some [b.val] := by rw [shRows_get hkl2, hke2]
        obtain ⟨vb, hvb⟩ := hb.base (by omega)
        have hbr : ∀ (R : Nat → Prop) w', (baseA w).holds R w' → RowsI w' (some vb) 1 (ints b.xs) := fun R w' h => by rw [← hvb]; exact rows_base h hb.rows
        have hv2 : bd20 (b.xs.getD i 0) := getD_bd hbb i
        unfold bd20 at hv hv2
        (repeat' ((conv => whnf) <;> first | (show idxK _ _ _ _ _; (first | refine idx_of va i hva rfl (by omega) ?_ | refine idx_of ka n.b.toNat hkbe hnb hkl2 ?_ | refine idx_of vb i hvb rfl (by omega) ?_)) | (show roK _ _ _; (first | refine ro_int hvr (j := i) (by omega) ?_ | refine ro_row0 (fun R w' h => by rw [← hkbe]; exact rows_base h hkr) _ _ hrowB rfl ?_ | refine ro_int hbr (j := i) (by omega) ?_)) | (show leK _ _ _; (refine le_of (by rw [ints_length, hlen]; exact Nat.le_refl _) ?_)) | (show roomK _ _ _; (refine room_of (by show (i + 1) * 8 ≤ 140737488355328; omega) ?_)) | (show drawK _ _ _ _ _ _ _ _; refine draw_quiet tabOk mixed (by kernel_rfl) ?_) | (show Wp _ _ _ _ _ _ _; refine Wp.go tabOk rfl ?_) | (show @cmpK _ _ _; (first | refine cmpY ?_ | refine cmpN ?_ | (refine cmp_both ?_ ?_ <;> intro _))) | (show wrapK _ _ _; refine wrapA ?_) | (show leK _ _ _; refine leA ?_) | (show roomK _ _ _; refine roomA ?_) | (show ltK _ _ _; refine ltA ?_) | (show _ ∧ _; refine ⟨?_, ?_⟩) | (show keepK _ _ _ _ _; refine keepA ?_) | refine own_keep ?_ | refine ap_old ?_))
        all_goals (conv => whnf)
        exact ⟨i + 1, [(1, some 3)], hlt, by omega, rfl, ⟨rfl, rfl, rfl, rfl, rfl, rfl, rfl, trivial⟩, ⟨by
          show (3, Ent.rows (ints ((List.range (i + 1)).map (numAt n a.xs b.xs))) 1 3) ∈ _
          rw [hsn, hN]; exact ints_snocM _ _ hlen.symm, (by repeat (first | exact List.mem_cons_self | apply List.mem_cons_of_mem)), trivial⟩, fun _ _ h => h⟩
      · have hN : numAt n a.xs b.xs i = a.xs.getD i 0 * n.data.xs.getD 0 0 := by unfold numAt; rw [if_neg (by omega), if_neg (by omega), if_pos hk7]
        have hs7 := hsc hk7
        obtain ⟨ud, hud⟩ := hd.base (by omega)
        have hdr : ∀ (R : Nat → Prop) w', (baseA w).holds R w' → RowsI w' (some ud) 1 (ints n.data.xs) := fun R w' h => by rw [← hud]; exact rows_base h hd.rows
        have q1 := mul_bd (A := 1048576) (B := 1048576) hv (getD_bd hdb 0)
        (repeat' ((conv => whnf) <;> first | (show idxK _ _ _ _ _; (first | refine idx_of va i hva rfl (by omega) ?_ | refine idx_of ud 0 hud rfl (by omega) ?_)) | (show roK _ _ _; (first | refine ro_int hvr (j := i) (by omega) ?_ | refine ro_int hdr (j := 0) (by omega) ?_)) | (show leK _ _ _; (refine le_of (by rw [ints_length, hlen]; exact Nat.le_refl _) ?_)) | (show roomK _ _ _; (refine room_of (by show (i + 1) * 8 ≤ 140737488355328; omega) ?_)) | (show drawK _ _ _ _ _ _ _ _; refine draw_quiet tabOk mixed (by kernel_rfl) ?_) | (show Wp _ _ _ _ _ _ _; refine Wp.go tabOk rfl ?_) | (show @cmpK _ _ _; (first | refine cmpY ?_ | refine cmpN ?_ | (refine cmp_both ?_ ?_ <;> intro _))) | (show wrapK _ _ _; refine wrapA ?_) | (show leK _ _ _; refine leA ?_) | (show roomK _ _ _; refine roomA ?_) | (show ltK _ _ _; refine ltA ?_) | (show _ ∧ _; refine ⟨?_, ?_⟩) | (show keepK _ _ _ _ _; refine keepA ?_) | refine own_keep ?_ | refine ap_old ?_))
        all_goals (conv => whnf)
        exact ⟨i + 1, [(1, some 3)], hlt, by omega, rfl, ⟨rfl, rfl, rfl, rfl, rfl, rfl, rfl, trivial⟩, ⟨by
          show (3, Ent.rows (ints ((List.range (i + 1)).map (numAt n a.xs b.xs))) 1 3) ∈ _
          rw [hsn, hN]; exact ints_snocM _ _ hlen.symm, (by repeat (first | exact List.mem_cons_self | apply List.mem_cons_of_mem)), trivial⟩, fun _ _ h => h⟩
      · have hN : numAt n a.xs b.xs i = powI n.data.xs (a.xs.getD i 0) := by unfold numAt; rw [if_neg (by omega), if_neg (by omega), if_neg (by omega), if_pos hk8]
        have hs8 := hpo hk8
        obtain ⟨ud, hud⟩ := hd.base (by omega)
        have hdr : ∀ (R : Nat → Prop) w', (baseA w).holds R w' → RowsI w' (some ud) 1 (ints n.data.xs) := fun R w' h => by rw [← hud]; exact rows_base h hd.rows
        have hpc : ∀ w', Calls Try.prog 86 #[.int .i64 (n.data.xs.getD 0 0), .int .i64 (n.data.xs.getD 1 0), .int .i64 (n.data.xs.getD 2 0), .int .i64 (a.xs.getD i 0)] w' fun e w'' => e = .returned (.int .i64 (powI n.data.xs (a.xs.getD i 0))) ∧ Ext w' w'' := fun w' => rpower_any w' _ _ _ _ (getD_bd hdb 0) (getD_bd hdb 1) (getD_bd hdb 2) hv
        (repeat' ((conv => whnf) <;> first | (show idxK _ _ _ _ _; (first | refine idx_of va i hva rfl (by omega) ?_ | refine idx_of ud 0 hud rfl (by omega) ?_ | refine idx_of ud 1 hud rfl (by omega) ?_ | refine idx_of ud 2 hud rfl (by omega) ?_)) | (show roK _ _ _; (first | refine ro_int hvr (j := i) (by omega) ?_ | refine ro_int hdr (j := 0) (by omega) ?_ | refine ro_int hdr (j := 1) (by omega) ?_ | refine ro_int hdr (j := 2) (by omega) ?_)) | (show callK _ 86 _ _ _ _ _; refine call_pure (f := 86) Try.call86 (.int .i64 (powI n.data.xs (a.xs.getD i 0))) (fun ρ w' hw => hpc w') ?_) | (show callQ _ 86 _ _ _ _ _; refine callQ_of (f := 86) Try.call86 (.int .i64 (powI n.data.xs (a.xs.getD i 0))) (fun ρ w' hw => hpc w') ?_) | (show leK _ _ _; (refine le_of (by rw [ints_length, hlen]; exact Nat.le_refl _) ?_)) | (show roomK _ _ _; (refine room_of (by show (i + 1) * 8 ≤ 140737488355328; omega) ?_)) | (show drawK _ _ _ _ _ _ _ _; refine draw_quiet tabOk mixed (by kernel_rfl) ?_) | (show Wp _ _ _ _ _ _ _; refine Wp.go tabOk rfl ?_) | (show @cmpK _ _ _; (first | refine cmpY ?_ | refine cmpN ?_ | (refine cmp_both ?_ ?_ <;> intro _))) | (show wrapK _ _ _; refine wrapA ?_) | (show leK _ _ _; refine leA ?_) | (show roomK _ _ _; refine roomA ?_) | (show ltK _ _ _; refine ltA ?_) | (show _ ∧ _; refine ⟨?_, ?_⟩) | (show keepK _ _ _ _ _; refine keepA ?_) | refine own_keep ?_ | refine ap_old ?_))
        all_goals (conv => whnf)
        exact ⟨i + 1, [(1, some 3)], hlt, by omega, rfl, ⟨rfl, rfl, rfl, rfl, rfl, rfl, rfl, trivial⟩, ⟨by
          show (3, Ent.rows (ints ((List.range (i + 1)).map (numAt n a.xs b.xs))) 1 3) ∈ _
          rw [hsn, hN]; exact ints_snocM _ _ hlen.symm, (by repeat (first | exact List.mem_cons_self | apply List.mem_cons_of_mem)), trivial⟩, fun _ _ h => h⟩
      · have hN : numAt n a.xs b.xs i = a.xs.getD i 0 := by unfold numAt; rw [if_neg (by omega), if_neg (by omega), if_neg (by omega), if_neg (by omega)]
        (repeat' ((conv => whnf) <;> first | (show idxK _ _ _ _ _; refine idx_of va i hva rfl (by omega) ?_) | (show roK _ _ _; refine ro_int hvr (j := i) (by omega) ?_) | (show leK _ _ _; (refine le_of (by rw [ints_length, hlen]; exact Nat.le_refl _) ?_)) | (show roomK _ _ _; (refine room_of (by show (i + 1) * 8 ≤ 140737488355328; omega) ?_)) | (show drawK _ _ _ _ _ _ _ _; refine draw_quiet tabOk mixed (by kernel_rfl) ?_) | (show Wp _ _ _ _ _ _ _; refine Wp.go tabOk rfl ?_) | (show @cmpK _ _ _; (first | refine cmpY ?_ | refine cmpN ?_ | (refine cmp_both ?_ ?_ <;> intro _))) | (show wrapK _ _ _; refine wrapA ?_) | (show leK _ _ _; refine leA ?_) | (show roomK _ _ _; refine roomA ?_) | (show ltK _ _ _; refine ltA ?_) | (show _ ∧ _; refine ⟨?_, ?_⟩) | (show keepK _ _ _ _ _; refine keepA ?_) | refine own_keep ?_ | refine ap_old ?_))
        all_goals (conv => whnf)
        exact ⟨i + 1, [(1, some 3)], hlt, by omega, rfl, ⟨rfl, rfl, rfl, rfl, rfl, rfl, rfl, trivial⟩, ⟨by
          show (3, Ent.rows (ints ((List.range (i + 1)).map (numAt n a.xs b.xs))) 1 3) ∈ _
          rw [hsn, hN]; exact ints_snocM _ _ hlen.symm, (by repeat (first | exact List.mem_cons_self | apply List.mem_cons_of_mem)), trivial⟩, fun _ _ h => h⟩
    · have hiz : i = cnt := Nat.le_antisymm hi (Nat.not_lt.1 hlt)
      subst hiz
      (repeat' ((conv => whnf) <;> first | (show drawK _ _ _ _ _ _ _ _; refine draw_quiet tabOk mixed (by kernel_rfl) ?_) | (show Wp _ _ _ _ _ _ _; refine Wp.go tabOk rfl ?_) | (show @cmpK _ _ _; (first | refine cmpY ?_ | refine cmpN ?_ | (refine cmp_both ?_ ?_ <;> intro _))) | (show wrapK _ _ _; refine wrapA ?_) | (show leK _ _ _; refine leA ?_) | (show roomK _ _ _; refine roomA ?_) | (show ltK _ _ _; refine ltA ?_) | (show _ ∧ _; refine ⟨?_, ?_⟩) | (show keepK _ _ _ _ _; refine keepA ?_) | refine own_keep ?_ | refine ap_old ?_))
      all_goals (conv => whnf)
      exact eends_new (B := ⟨w, []⟩) (fun _ _ h => h) rfl (by repeat (first | exact List.mem_cons_self | apply List.mem_cons_of_mem)) hlen.symm (fun z hz => by
        obtain ⟨q, hq, rfl⟩ := List.mem_map.1 hz
        have := hbd q
        unfold i64
        omega) (by simp only [numsL, List.length_map, List.length_range]; omega)
end Go.Proofs.Ytdmkdogakbipbaa

/- JS -/
namespace Go.Proofs.Ytdmkdogakbipbaa
open Go.SX Go.RowKit
theorem span_all (w : World) (n : NodeV) (sh : List (List Int)) (s : List Int) (sv : ShapesV) (hs : sv.ok w) (t : IntsV) (cnt : Nat) (h : PlaceIn n sh s t.xs cnt) (hno : n.ok w) (ht : sv.l[n.a.toNat]? = some t) (ha0 : 0 ≤ n.a) (hb0 : 0 ≤ n.b) (b2 : Option Addr) (c2 : Nat) (acc : List Sp) (hacc : RowsI w b2 2 (spRows acc)) (hA : n.kind ≠ 1 → n.kind ≠ 2 → n.a.toNat < acc.length) (hB : n.kind = 6 → n.b.toNat < acc.length) (hbd : ∀ s ∈ acc, bd20 s.1 ∧ bd20 s.2 ∧ s.1 ≤ s.2) : Calls Try.prog 84 #[n.valA, sv.val, .slice b2 acc.length c2] w fun e w' => e = .returned (spanV (spanE (endsA n cnt t.xs (acc.getD n.a.toNat (0, 0)) (acc.getD n.b.toNat (0, 0))))) ∧ Ext w w' := by
  obtain ⟨nd, nb, nlo, nhi, nle⟩ := near_in h.node.near
  obtain ⟨_, _, h7, h8, h2⟩ := ahead_of h.node.form
  have hfo := formed_of h.node.form
  have hkind := hfo.kind
  by_cases hl : isLin n
  · have e3 : endsA n cnt t.xs (acc.getD n.a.toNat (0, 0)) (acc.getD n.b.toNat (0, 0)) = linEnds n cnt (termsG n t.xs) (acc.getD n.a.toNat (0, 0)) := if_pos hl
    rw [e3]
    have hk : n.kind ≠ 1 ∧ n.kind ≠ 2 := by unfold isLin at hl; omega
    have hlt := hA hk.1 hk.2
    have hm := hbd _ (sp_mem hlt)
    exact span_lin w n sh s sv hs t cnt h hl hno ht ha0 b2 c2 acc hacc hlt ⟨hm.1, hm.2.1⟩
  · have e3 : endsA n cnt t.xs (acc.getD n.a.toNat (0, 0)) (acc.getD n.b.toNat (0, 0)) = endsL n (acc.getD n.a.toNat (0, 0)) (acc.getD n.b.toNat (0, 0)) := if_neg hl
    rw [e3]
    unfold isLin at hl
    by_cases hk8 : n.kind = 8
    · have hlt := hA (by omega) (by omega)
      have hm := hbd _ (sp_mem hlt)
      exact span_pow w n sv b2 c2 acc _ hk8 hno nd (h8 hk8) ha0 hacc hlt ⟨hm.1, hm.2.1⟩
    · refine span_plain w n sv b2 c2 acc (by omega) hno nd nle (fun hk => ?_) h7 ha0 hb0 hacc hA hB hbd
      have := h2 hk
      have := hfo.own (.inr (.inl hk))
      omega
theorem spRows_snoc (l : List Sp) (s : Sp) {i m : Nat} {T : TypeId} {H : Heap} (hm : m = l.length) : (i, Ent.rows (spRows (l ++ [s])) 2 T) ∈ (i, Ent.rows (List.take m (spRows l) ++ [[.int .i64 s.1, .int .i64 s.2]]) 2 T) :: H := by
  subst hm
  rw [show spRows (l ++ [s]) = List.take l.length (spRows l) ++ [[.int .i64 s.1, .int .i64 s.2]] by rw [List.take_of_length_le (by rw [spRows_length]; exact Nat.le_refl _)]; simp [spRows]]
  exact List.mem_cons_self
set_option maxRecDepth 20000 in
set_option maxHeartbeats 4000000 in
theorem refSpans_any (w : World) (g : GraphV) (hg : g.ok w) : Calls Try.prog 53 #[g.val] w (SpansPost w (spansH g)) := by
  refine calls_of tab tabOk Try.func53 rfl rfl rfl [] (fun _ => ⟨none, 0⟩) [.agg [.c (.slice g.base g.l.length g.cap), .c (.int .i64 g.out)]] [] (baseA w) 0 rfl rfl (by show 1 ≤ _; decide) (abs_base w) ?_
  (repeat' ((conv => whnf) <;> first | (show Wp _ _ _ _ _ _ _; refine Wp.go tabOk rfl ?_) | (show @cmpK _ _ _; (first | refine cmpY ?_ | refine cmpN ?_ | (refine cmp_both ?_ ?_ <;> intro _))) | (show wrapK _ _ _; refine wrapA ?_) | (show leK _ _ _; refine leA ?_) | (show roomK _ _ _; refine roomA ?_) | (show ltK _ _ _; refine ltA ?_) | (show _ ∧ _; refine ⟨?_, ?_⟩) | (show keepK _ _ _ _ _; refine keepA ?_) | refine own_keep ?_ | refine ap_old ?_))
  refine call_check (f := 38) (check g) Try.call38 (fun ρ w' hw => refCheck_any w' g (holds_of_abs hw fun R h => hg.later h)) (fun hne => ?_) (fun he sv hm hsv => ?_)
  · have hq : spansH g = ((check g).1, []) := if_pos hne
    rw [hq]
    (repeat' ((conv => whnf) <;> first | (show @cmpK _ _ _; refine cmp_yes hne ?_) | (show Wp _ _ _ _ _ _ _; refine Wp.go tabOk rfl ?_) | (show @cmpK _ _ _; (first | refine cmpY ?_ | refine cmpN ?_ | (refine cmp_both ?_ ?_ <;> intro _))) | (show wrapK _ _ _; refine wrapA ?_) | (show leK _ _ _; refine leA ?_) | (show roomK _ _ _; refine roomA ?_) | (show ltK _ _ _; refine ltA ?_) | (show _ ∧ _; refine ⟨?_, ?_⟩) | (show keepK _ _ _ _ _; refine keepA ?_) | refine own_keep ?_ | refine ap_old ?_))
    conv => whnf
    exact spans_bad (fun _ _ h => h) rfl hne (fun _ => rfl)
  have hq : spansH g = spansQ (check g).2 g.l [] := if_neg (fun h => h he)
  rw [hq]
  obtain ⟨hl1, hl24, hout, hcl, hin⟩ := check_in he
  have hsl : sv.l.length = g.l.length := by rw [← hcl, ← hm]; simp
  (repeat' ((conv => whnf) <;> first | (show Wp _ _ _ _ _ _ _; refine Wp.go tabOk rfl ?_) | (show @cmpK _ _ _; (first | refine cmpY ?_ | refine cmpN ?_ | (refine cmp_both ?_ ?_ <;> intro _))) | (show wrapK _ _ _; refine wrapA ?_) | (show leK _ _ _; refine leA ?_) | (show roomK _ _ _; refine roomA ?_) | (show ltK _ _ _; refine ltA ?_) | (show _ ∧ _; refine ⟨?_, ?_⟩) | (show keepK _ _ _ _ _; refine keepA ?_) | refine own_keep ?_ | refine ap_old ?_))
  refine Wp.loop (σ := Nat × List Sp) 2 (fun ⟨i, acc⟩ => [(4, .c sv.val), (6, .os 1 i), (19, .c (.slice g.base g.l.length g.cap)), (20, .c (.int .i64 g.l.length)), (21, .c (.int .i64 i))]) (fun ⟨i, acc⟩ => [(1, .rows (spRows acc) 2 68)]) (fun _ => (baseA w).and ((shapesD sv).past w.heap.size))
    (fun ⟨i, acc⟩ => i ≤ g.l.length ∧ acc.length = i ∧ spansQ (check g).2 (g.l.drop i) acc = spansQ (check g).2 g.l [] ∧ (∀ s ∈ acc, bd20 s.1 ∧ bd20 s.2 ∧ s.1 ≤ s.2)) (fun s => g.l.length - s.1) (0, []) [(1, none)] (by decide) (fun s => ⟨rfl, rfl⟩) ⟨Nat.zero_le _, rfl, rfl, fun s hs => by simp at hs⟩ ⟨rfl, ⟨rfl, rfl, rfl, rfl, rfl, trivial⟩, ⟨rfl, trivial⟩, fun _ _ h => h⟩ ?_
  rintro ⟨i, acc⟩ ⟨hi, hal, hsp, hab⟩
  by_cases hlt : i < g.l.length
  · obtain ⟨a, ha⟩ : ∃ a, g.base = some a := base_some (j := i) hg.rows (by rw [nodeRows_length]; omega)
    have hnm := List.getElem_mem hlt
    obtain ⟨s, hs, hni⟩ := hin i g.l[i] (List.getElem?_eq_getElem hlt)
    have hdrop : g.l.drop i = g.l[i] :: g.l.drop (i + 1) := List.drop_eq_getElem_cons hlt
    rw [hdrop] at hsp
    have hrow := nodeRows_get hlt
    have hpi := place_in he (List.getElem?_eq_getElem hlt)
    generalize g.l[i] = n at *
    have hn := hg.each n hnm
    obtain ⟨⟨ha0, hal2, hai⟩, ⟨hb0, hbl2, hbi⟩, cnt, hcnt, hpl⟩ := hpi
    have e1 : (check g).2.getD i [] = s := by rw [List.getD_eq_getElem?_getD, hs]; rfl
    rw [e1] at hcnt hpl
    obtain ⟨t, ht, hts⟩ : ∃ t, sv.l[n.a.toNat]? = some t ∧ t.xs = (check g).2.getD n.a.toNat [] := by
      have hlt2 : n.a.toNat < sv.l.length := by omega
      refine ⟨sv.l[n.a.toNat], List.getElem?_eq_getElem hlt2, ?_⟩
      rw [← hm, List.getD_eq_getElem?_getD, List.getElem?_map, List.getElem?_eq_getElem hlt2]; rfl
    rw [← hts] at hpl
    have hfo := formed_of hni.form
    have hti : ((check g).2.take i).length = i := by rw [List.length_take, hcl]; omega
    have hEq : endsAt (check g).2 n acc = endsA n cnt t.xs (acc.getD n.a.toNat (0, 0)) (acc.getD n.b.toNat (0, 0)) := by
      unfold endsAt
      rw [hal, e1, hcnt, hts]; rfl
    have hEL := endsA_len hpl (acc.getD n.a.toNat (0, 0)) (acc.getD n.b.toNat (0, 0))
    have hspan : ∀ w', sv.ok w' → n.ok w' → ∀ b2 c2, RowsI w' b2 2 (spRows acc) → Calls Try.prog 84 #[n.valA, sv.val, .slice b2 i c2] w' fun e w'' => e = .returned (spanV (spanE (endsA n cnt t.xs (acc.getD n.a.toNat (0, 0)) (acc.getD n.b.toNat (0, 0))))) ∧ Ext w' w'' := fun w' h1 h2 b2 c2 h3 => by
      rw [← hal]
      exact span_all w' n _ s sv h1 t cnt hpl h2 ht ha0 hb0 b2 c2 acc h3 (fun k1 k2 => by have := hfo.a k1 k2; omega) (fun k6 => by have := hfo.b k6; omega) hab
    generalize endsA n cnt t.xs (acc.getD n.a.toNat (0, 0)) (acc.getD n.b.toNat (0, 0)) = E at *
    have z1 : (spanE E).1 = foldI min E := rfl
    have z2 : (spanE E).2 = foldI max E := rfl
    by_cases hr : foldI min E < -1048576 ∨ 1048576 < foldI max E
    · have hq2 : spansQ (check g).2 (n :: g.l.drop (i + 1)) acc = (5, []) := by simp only [spansQ]; rw [hEq, if_pos hr]
      rw [hq2] at hsp
      rw [← hsp]
      (repeat' ((conv => whnf) <;> first | (show idxK _ _ _ _ _; refine idx_of a i ha rfl hlt ?_) | (show roAggK _ _ _ _; (refine roAgg_row (fun R w' h => by rw [← ha]; exact rows_base h.1 hg.rows) _ hrow rfl ?_)) | (show callK _ 84 _ _ _ _ _; (refine call_pure (f := 84) Try.call84 (spanV (spanE E)) (fun ρ w' hw => hspan w' (holds_of_abs hw fun R h => shapes_okI hsv (by omega) h.2) (holds_of_abs hw fun R h => hn.later h.1) (ρ 1).base (ρ 1).cap (rows_of_abs hw (by repeat (first | exact List.mem_cons_self | apply List.mem_cons_of_mem)))) ?_)) | (show Wp _ _ _ _ _ _ _; refine Wp.go tabOk rfl ?_) | (show @cmpK _ _ _; (first | refine cmpY ?_ | refine cmpN ?_ | (refine cmp_both ?_ ?_ <;> intro _))) | (show wrapK _ _ _; refine wrapA ?_) | (show leK _ _ _; refine leA ?_) | (show roomK _ _ _; refine roomA ?_) | (show ltK _ _ _; refine ltA ?_) | (show _ ∧ _; refine ⟨?_, ?_⟩) | (show keepK _ _ _ _ _; refine keepA ?_) | refine own_keep ?_ | refine ap_old ?_))
      all_goals (conv => whnf)
      all_goals first | (exfalso; omega) | exact spans_bad (fun _ _ h => h.1) rfl (by decide) (fun _ => rfl)
    · have hq2 : spansQ (check g).2 (n :: g.l.drop (i + 1)) acc = spansQ (check g).2 (g.l.drop (i + 1)) (acc ++ [(foldI min E, foldI max E)]) := by
        conv => lhs; unfold spansQ
        rw [hEq, if_neg hr]
      rw [hq2] at hsp
      have hle := foldI_le hEL
      (repeat' ((conv => whnf) <;> first | (show idxK _ _ _ _ _; refine idx_of a i ha rfl hlt ?_) | (show roAggK _ _ _ _; (refine roAgg_row (fun R w' h => by rw [← ha]; exact rows_base h.1 hg.rows) _ hrow rfl ?_)) | (show callK _ 84 _ _ _ _ _; (refine call_pure (f := 84) Try.call84 (spanV (spanE E)) (fun ρ w' hw => hspan w' (holds_of_abs hw fun R h => shapes_okI hsv (by omega) h.2) (holds_of_abs hw fun R h => hn.later h.1) (ρ 1).base (ρ 1).cap (rows_of_abs hw (by repeat (first | exact List.mem_cons_self | apply List.mem_cons_of_mem)))) ?_)) | (show leK _ _ _; (refine le_of (by rw [spRows_length, hal]; exact Nat.le_refl _) ?_)) | (show roomK _ _ _; (refine room_of (by show (i + 1) * 16 ≤ 140737488355328; omega) ?_)) | (show Wp _ _ _ _ _ _ _; refine Wp.go tabOk rfl ?_) | (show @cmpK _ _ _; (first | refine cmpY ?_ | refine cmpN ?_ | (refine cmp_both ?_ ?_ <;> intro _))) | (show wrapK _ _ _; refine wrapA ?_) | (show leK _ _ _; refine leA ?_) | (show roomK _ _ _; refine roomA ?_) | (show ltK _ _ _; refine ltA ?_) | (show _ ∧ _; refine ⟨?_, ?_⟩) | (show keepK _ _ _ _ _; refine keepA ?_) | refine own_keep ?_ | refine ap_old ?_))
      all_goals (conv => whnf)
      all_goals first | (exfalso; omega) | exact ⟨(i + 1, acc ++ [(foldI min E, foldI max E)]), [(1, some 5)], ⟨hlt, by rw [List.length_append, hal]; rfl, hsp, fun s hs => by
        rcases List.mem_append.1 hs with h | h
        · exact hab s h
        · simp at h; subst h; unfold bd20; omega⟩, by simp only; omega, rfl, ⟨rfl, rfl, rfl, rfl, rfl, trivial⟩, ⟨spRows_snoc acc (foldI min E, foldI max E) hal.symm, trivial⟩, fun _ _ h => h⟩
  · have hiz : i = g.l.length := by omega
    subst hiz
    rw [List.drop_length] at hsp
    (repeat' ((conv => whnf) <;> first | (show Wp _ _ _ _ _ _ _; refine Wp.go tabOk rfl ?_) | (show @cmpK _ _ _; (first | refine cmpY ?_ | refine cmpN ?_ | (refine cmp_both ?_ ?_ <;> intro _))) | (show wrapK _ _ _; refine wrapA ?_) | (show leK _ _ _; refine leA ?_) | (show roomK _ _ _; refine roomA ?_) | (show ltK _ _ _; refine ltA ?_) | (show _ ∧ _; refine ⟨?_, ?_⟩) | (show keepK _ _ _ _ _; refine keepA ?_) | refine own_keep ?_ | refine ap_old ?_))
    conv => whnf
    exact spans_good (l := acc) (fun _ _ h => h.1) rfl (by repeat (first | exact List.mem_cons_self | apply List.mem_cons_of_mem)) hal.symm (by rw [← hsp]; rfl)
end Go.Proofs.Ytdmkdogakbipbaa

/- JX -/
namespace Go.Proofs.Ytdmkdogakbipbaa
open Go.SX Go.RowKit
theorem values_all (w : World) (n : NodeV) (sh : List (List Int)) (s : List Int) (sv : ShapesV) (hs : sv.ok w) (t : IntsV) (cnt : Nat) (h : PlaceIn n sh s t.xs cnt) (hk1 : n.kind ≠ 1) (hno : n.ok w) (ht : sv.l[n.a.toNat]? = some t) (ha0 : 0 ≤ n.a) (hb0 : 0 ≤ n.b) (kb : Option Addr) (kc : Nat) (kn : List IntsV) (hkr : RowsI w kb 1 (shRows kn)) (a b : IntsV) (hka : n.kind ≠ 2 → kn[n.a.toNat]? = some a) (hkb : n.kind = 6 → kn[n.b.toNat]? = some b) (hao : a.ok w) (hbo : b.ok w) (hab : ∀ x ∈ a.xs, bd20 x) (hbb : ∀ x ∈ b.xs, bd20 x) (hn : NumIn n sh a.xs b.xs) : Calls Try.prog 55 #[n.valA, sv.val, .slice kb kn.length kc] w (EndsPost w n (numsA n cnt t.xs a.xs b.xs)) := by
  by_cases hl : isLin n
  · have e3 : numsA n cnt t.xs a.xs b.xs = numsLin n cnt cnt (termsG n t.xs) a.xs := if_pos hl
    rw [e3]
    have hk2 : n.kind ≠ 2 := by unfold isLin at hl; omega
    have hal := hn.aLen hk1 hk2
    rw [(h.first hl).1] at hal
    exact values_lin w n sh s sv hs t cnt h hl hno ht ha0 kb kc kn hkr a (hka hk2) hao hab hal
  · have e3 : numsA n cnt t.xs a.xs b.xs = numsL n cnt a.xs b.xs := if_neg hl
    rw [e3]
    obtain ⟨_, _, h7, h8, h2⟩ := ahead_of h.node.form
    obtain ⟨nd, nb, nlo, nhi, nle⟩ := near_in h.node.near
    obtain ⟨q1, q2, q3, q4⟩ := plain_lens h hl hk1 hn
    exact values_plain w n sv kb kc kn hkr a b cnt ⟨q1, h.few.2, hno.data, nd, q2, h7, h8, hao, hbo, q3, q4, hab, hbb⟩ hno ha0 hb0 h.few.1 hka hkb
abbrev Mix := IntsV × Bool
def mixA (N : Nat) (l : List Mix) : Asn where
  holds R w := ∀ p ∈ l, p.2 = false → (newA N p.1).holds R w
  stable := fun hR hw h p hp e => (newA N p.1).stable hR hw (h p hp e)
structure MixIn (src : List IntsV) (l : List Mix) : Prop where
  sane : ∀ p ∈ l, p.1.sane
  old : ∀ p ∈ l, p.2 = true → p.1 ∈ src
theorem MixIn.ok {src : List IntsV} {w w' : World} {R : Nat → Prop} {N : Nat} {l : List Mix} (h : MixIn src l) (hs : ∀ u ∈ src, u.ok w) (hb : (baseA w).holds R w') (hm : (mixA N l).holds R w') : ∀ u ∈ l.map Prod.fst, u.ok w' := fun u hu => by
  obtain ⟨p, hp, rfl⟩ := List.mem_map.1 hu
  cases e : p.2 with
  | true => exact (hs _ (h.old p hp e)).later hb
  | false => exact intsA_ok (h.sane p hp) ((intsA p.1).mono (hm p hp e) (fun b hb => hb.1))
theorem MixIn.snoc {src : List IntsV} {l : List Mix} {p : Mix} (h : MixIn src l) (hs : p.1.sane) (ho : p.2 = true → p.1 ∈ src) : MixIn src (l ++ [p]) := by
  refine ⟨fun q hq => ?_, fun q hq => ?_⟩
  · rcases List.mem_append.1 hq with hq | hq
    · exact h.sane q hq
    · rw [List.mem_singleton.1 hq]; exact hs
  · rcases List.mem_append.1 hq with hq | hq
    · exact h.old q hq
    · rw [List.mem_singleton.1 hq]; exact ho
end Go.Proofs.Ytdmkdogakbipbaa

/- NR -/
namespace Go.Proofs.Ytdmkdogakbipbaa
open Go.SX Go.RowKit
set_option maxRecDepth 20000 in
set_option maxHeartbeats 4000000 in
theorem sameNode_any (w : World) (m n : NodeV) (hm : m.ok w) (hn : n.ok w) : Calls Try.prog 56 #[m.valA, n.valA] w fun e w' => e = .returned (.bool (sameP m.pl n.pl)) ∧ Ext w w' := by
  refine calls_of tab tabOk Try.func56 rfl rfl rfl [] (fun _ => ⟨none, 0⟩) [.agg [.c (.int .i64 m.kind), .c (.int .i64 m.a), .c (.int .i64 m.b), .c m.shape.val, .c (.int .i64 m.lo), .c (.int .i64 m.hi), .c (.int .i64 m.size), .c m.data.val, .c m.bias.val], .agg [.c (.int .i64 n.kind), .c (.int .i64 n.a), .c (.int .i64 n.b), .c n.shape.val, .c (.int .i64 n.lo), .c (.int .i64 n.hi), .c (.int .i64 n.size), .c n.data.val, .c n.bias.val]] [] (baseA w) 0 rfl rfl (by show 2 ≤ _; decide) (abs_base w) ?_
  (repeat' ((conv => whnf) <;> first | (show callK _ 26 [.c m.shape.val, .c n.shape.val] _ _ _ _; ((refine call_bool (f := 26) Try.call26 (decide (m.shape.xs = n.shape.xs)) (fun ρ w' hw => same_any w' m.shape n.shape (holds_of_abs hw fun R h => hm.shape.later h) (holds_of_abs hw fun R h => hn.shape.later h)) ?_ ?_ <;> intro _))) | (show callK _ 26 [.c m.data.val, .c n.data.val] _ _ _ _; ((refine call_bool (f := 26) Try.call26 (decide (m.data.xs = n.data.xs)) (fun ρ w' hw => same_any w' m.data n.data (holds_of_abs hw fun R h => hm.data.later h) (holds_of_abs hw fun R h => hn.data.later h)) ?_ ?_ <;> intro _))) | (show callK _ 26 [.c m.bias.val, .c n.bias.val] _ _ _ _; ((refine call_bool (f := 26) Try.call26 (decide (m.bias.xs = n.bias.xs)) (fun ρ w' hw => same_any w' m.bias n.bias (holds_of_abs hw fun R h => hm.bias.later h) (holds_of_abs hw fun R h => hn.bias.later h)) ?_ ?_ <;> intro _))) | (show Wp _ _ _ _ _ _ _; refine Wp.go tabOk rfl ?_) | (show @cmpK _ _ _; (first | refine cmpY ?_ | refine cmpN ?_ | (refine cmp_both ?_ ?_ <;> intro _))) | (show wrapK _ _ _; refine wrapA ?_) | (show leK _ _ _; refine leA ?_) | (show roomK _ _ _; refine roomA ?_) | (show ltK _ _ _; refine ltA ?_) | (show _ ∧ _; refine ⟨?_, ?_⟩) | (show keepK _ _ _ _ _; refine keepA ?_) | refine own_keep ?_ | refine ap_old ?_))
  all_goals (conv => whnf)
  all_goals exact ends_bool (fun _ _ h => h) rfl (by simp_all [sameP, NodeV.pl])
end Go.Proofs.Ytdmkdogakbipbaa

/- NS -/
namespace Go.Proofs.Ytdmkdogakbipbaa
open Go.SX Go.RowKit
def srcG (g : GraphV) (u : IntsV) : Prop := u = nilI ∨ ∃ n ∈ g.l, u = n.shape ∨ u = n.data ∨ u = n.bias
theorem srcG_ok {w : World} {g : GraphV} (hg : ∀ n ∈ g.l, n.ok w) (u : IntsV) (h : srcG g u) : u.ok w := by
  rcases h with rfl | ⟨n, hn, rfl | rfl | rfl⟩
  · exact nil_ok w
  · exact (hg n hn).shape
  · exact (hg n hn).data
  · exact (hg n hn).bias
theorem src_of {g : GraphV} {n : NodeV} (h : n ∈ g.l) : srcG g n.shape ∧ srcG g n.data ∧ srcG g n.bias := ⟨.inr ⟨n, h, .inl rfl⟩, .inr ⟨n, h, .inr (.inl rfl)⟩, .inr ⟨n, h, .inr (.inr rfl)⟩⟩
def partA (P : IntsV → Prop) (N : Nat) (u : IntsV) : Asn where
  holds R w := P u ∨ ((intsA u).past N).holds R w
  stable := fun hR hw h => h.imp id (fun h => ((intsA u).past N).stable hR hw h)
def mineA (P : IntsV → Prop) (N : Nat) (n : NodeV) : Asn := (partA P N n.shape).and ((partA P N n.data).and (partA P N n.bias))
def rowA (P : IntsV → Prop) (N : Nat) (l : List NodeV) : Asn where
  holds R w := ∀ n ∈ l, (mineA P N n).holds R w
  stable := fun hR hw h n hn => (mineA P N n).stable hR hw (h n hn)
section
variable {P : IntsV → Prop} {N : Nat}
theorem rowA_nil (P : IntsV → Prop) (N : Nat) (R : Nat → Prop) (w : World) : (rowA P N []).holds R w := fun n hn => by simp at hn
theorem rowA_snoc {l : List NodeV} {n : NodeV} {R : Nat → Prop} {w : World} (h : (rowA P N l).holds R w) (hn : (mineA P N n).holds R w) : (rowA P N (l ++ [n])).holds R w := fun m hm => by
  rcases List.mem_append.1 hm with hm | hm
  · exact h m hm
  · rw [List.mem_singleton.1 hm]; exact hn
theorem part_ok {w0 w' : World} {u : IntsV} {R : Nat → Prop} (hP : ∀ u, P u → u.ok w0) (hs : u.sane) (hb : (baseA w0).holds R w') (h : (partA P N u).holds R w') : u.ok w' := by
  rcases h with h | h
  · exact (hP u h).later hb
  · exact intsA_ok hs ((intsA u).mono h (fun b hb => hb.1))
theorem mine_ok {w0 w' : World} {n : NodeV} {R : Nat → Prop} (hP : ∀ u, P u → u.ok w0) (hs : n.saneN) (hb : (baseA w0).holds R w') (h : (mineA P N n).holds R w') : n.ok w' :=
  ⟨part_ok hP hs.shape hb h.1, part_ok hP hs.data hb h.2.1, part_ok hP hs.bias hb h.2.2, hs.kindFits, hs.aFits, hs.bFits, hs.loFits, hs.hiFits, hs.sizeFits⟩
theorem row_ok {w0 w' : World} {l : List NodeV} {R : Nat → Prop} (hP : ∀ u, P u → u.ok w0) (hs : ∀ n ∈ l, n.saneN) (hb : (baseA w0).holds R w') (h : (rowA P N l).holds R w') : ∀ n ∈ l, n.ok w' := fun n hn => mine_ok hP (hs n hn) hb (h n hn)
theorem mine_old {n m : NodeV} (h : P n.shape ∧ P n.data ∧ P n.bias) (e1 : m.shape = n.shape) (e2 : m.data = n.data) (e3 : m.bias = n.bias) (R : Nat → Prop) (w : World) : (mineA P N m).holds R w := by
  refine ⟨?_, ?_, ?_⟩
  · rw [e1]; exact .inl h.1
  · rw [e2]; exact .inl h.2.1
  · rw [e3]; exact .inl h.2.2
theorem mine_const {n : NodeV} {sv : ShapesV} {u : IntsV} {x : IntsV × Bool} {R : Nat → Prop} {w : World} (hn : P n.data) (h0 : P nilI) (hu : u ∈ sv.l) (hx : x.2 = true → x.1 = n.data) (h1 : ((shapesD sv).past N).holds R w) (h2 : ((oldA x).past N).holds R w) : (mineA P N (constN u x.1)).holds R w := by
  refine ⟨.inr (h1.2 u hu), ?_, .inl h0⟩
  show (partA P N x.1).holds R w
  cases hb : x.2 with
  | true => rw [hx hb]; exact .inl hn
  | false => exact .inr (h2 hb)
end
theorem idxP_snoc {n x : NodeP} : ∀ {l : List NodeP} {k : Nat}, idxP n (l ++ [x]) k = match idxP n l k with | some i => some i | none => if sameP x n = true then some (k + l.length) else none
  | [], k => by simp [idxP]
  | y :: r, k => by
    rw [List.cons_append, idxP_step, idxP_step]
    split
    · rfl
    · rw [idxP_snoc]
      have : k + 1 + r.length = k + (y :: r).length := by simp only [List.length_cons]; omega
      rw [this]
def fndP (n : NodeP) (row : List NodeP) (j : Nat) : Int := if n.kind = 1 then -1 else idxI n (row.take j)
theorem fnd_zero (n : NodeP) (row : List NodeP) : fndP n row 0 = -1 := by
  unfold fndP
  split
  · rfl
  · rfl
theorem fnd_step {n x : NodeP} {row : List NodeP} {j : Nat} (hx : row[j]? = some x) : fndP n row (j + 1) = if 0 ≤ fndP n row j then fndP n row j else if n.kind = 1 then -1 else if sameP x n = true then (j : Int) else -1 := by
  unfold fndP
  by_cases h1 : n.kind = 1
  · rw [if_pos h1, if_neg (by omega), if_pos h1]
  · rw [if_neg h1, if_neg h1, if_neg h1]
    obtain ⟨hj, he⟩ := List.getElem?_eq_some_iff.1 hx
    have e : row.take (j + 1) = row.take j ++ [x] := by rw [List.take_add_one, hx]; rfl
    rw [e]
    unfold idxI
    rw [idxP_snoc]
    have hl : (row.take j).length = j := by rw [List.length_take]; omega
    cases idxP n (row.take j) 0 with
    | some k => simp
    | none =>
      by_cases hs : sameP x n = true <;> simp [hs, hl]
theorem fnd_le (n : NodeP) (row : List NodeP) (j : Nat) : -1 ≤ fndP n row j ∧ fndP n row j < 0 ∨ 0 ≤ fndP n row j ∧ fndP n row j < j ∧ n.kind ≠ 1 := by
  unfold fndP
  split
  · left; omega
  · rename_i h1
    unfold idxI
    cases h : idxP n (row.take j) 0 with
    | none => left; simp
    | some k =>
      right
      obtain ⟨_, h2⟩ := idxP_some h
      have := (List.getElem?_eq_some_iff.1 h2).1
      rw [Nat.sub_zero, List.length_take] at this
      show (0 : Int) ≤ (k : Int) ∧ (k : Int) < (j : Int) ∧ _
      exact ⟨by omega, by omega, h1⟩
theorem fnd_end {n : NodeP} {row : List NodeP} {j : Nat} (hj : j = row.length) : fndP n row j = match findP row n with | some k => (k : Int) | none => -1 := by
  subst hj
  unfold fndP findP
  split
  · rfl
  · rw [List.take_length]; rfl
theorem place_pl {n : NodeV} {sh : List (List Int)} {s t : List Int} {cnt : Nat} (h : PlaceIn n.pl.toV sh s t cnt) : PlaceIn n sh s t cnt :=
  ⟨⟨by rw [← form_pl]; exact h.node.form, h.node.shape, by rw [← near_pl]; exact h.node.near⟩, h.cnt, h.pos, h.first⟩
theorem numIn_pl {n : NodeV} {sh : List (List Int)} {a b : List Int} (h : NumIn n.pl.toV sh a b) : NumIn n sh a b := ⟨h.aLen, h.bLen⟩
theorem values_known {w' : World} {row : List NodeV} {shs : List IntsV} {rsp : List Sp} {M : NodeV} {s : List Int} (hR : RowOk (row.map NodeV.pl) (shs.map IntsV.xs) rsp) (hm : NodeIn M.pl.toV (shs.map IntsV.xs) s) (hk : knownP (row.map NodeV.pl) M.pl = true) (sv' : ShapesV) (hl : sv'.l = shs) (hs : sv'.ok w') (hM : M.ok w') (hrow : ∀ z ∈ row, z.ok w') (kb : Option Addr) (kc : Nat) (hkr : RowsI w' kb 1 (shRows (row.map NodeV.data))) : Calls Try.prog 55 #[M.valA, sv'.val, .slice kb row.length kc] w' (EndsPost w' M (numsP s (row.map NodeV.pl) M.pl)) := by
  have hKn := known_in hR hm hk
  have hah := aheadP_of hm.form
  have hla : M.a.toNat < row.length := by have := hKn.aLt; rwa [List.length_map] at this
  have eA : (row.map NodeV.pl).getD M.pl.a.toNat nilP = row[M.a.toNat].pl := keptD hla
  have hsl : shs.length = row.length := by have := hR.lenS; simpa using this
  have hls : M.a.toNat < shs.length := by omega
  have htx : gD (shs.map IntsV.xs) M.pl.a.toNat = shs[M.a.toNat].xs := by
    unfold gD
    rw [List.getD_eq_getElem?_getD, List.getElem?_map]
    show (Option.map IntsV.xs shs[M.a.toNat]?).getD [] = _
    rw [List.getElem?_eq_getElem hls]; rfl
  have hpl := place_of hm hR.pos
  rw [htx] at hpl
  have hpl := place_pl (n := M) hpl
  have ht : sv'.l[M.a.toNat]? = some shs[M.a.toNat] := by rw [hl]; exact List.getElem?_eq_getElem hls
  have hkl : (row.map NodeV.data).length = row.length := List.length_map _
  have gt : ∀ k (h : k < row.length), (row.map NodeV.data)[k]? = some row[k].data := fun k h => by rw [List.getElem?_map, List.getElem?_eq_getElem h]; rfl
  have hn := numIn_pl (n := M) (numIn_of hR hKn)
  have cA := const_at hR hKn.aLt hKn.aK
  rw [eA] at hn cA
  have hab : ∀ x ∈ row[M.a.toNat].data.xs, bd20 x := cA.2.2.2.1
  by_cases h6 : M.kind = 6
  · have hlb : M.b.toNat < row.length := by have := hKn.bLt h6; rwa [List.length_map] at this
    have eB : (row.map NodeV.pl).getD M.pl.b.toNat nilP = row[M.b.toNat].pl := keptD hlb
    have cB := const_at hR (hKn.bLt h6) (hKn.bK h6)
    have eb : bData (row.map NodeV.pl) M.pl = row[M.b.toNat].data.xs := by
      unfold bData
      rw [if_pos (show M.pl.kind = 6 from h6), eB]; rfl
    rw [eB] at cB
    rw [eb] at hn
    have := values_all w' M _ s sv' hs shs[M.a.toNat] _ hpl hKn.kind.1 hM ht hah.a0 hah.b0 kb kc (row.map NodeV.data) hkr row[M.a.toNat].data row[M.b.toNat].data (fun _ => gt _ hla) (fun _ => gt _ hlb) (hrow _ (List.getElem_mem hla)).data (hrow _ (List.getElem_mem hlb)).data hab cB.2.2.2.1 hn
    rw [hkl] at this
    have e : numsP s (row.map NodeV.pl) M.pl = numsA M (entries s).toNat shs[M.a.toNat].xs row[M.a.toNat].data.xs row[M.b.toNat].data.xs := by
      unfold numsP
      rw [nums_pl, if_pos (show M.pl.kind = 6 from h6), eA, eB, ← htx, cA.1]; rfl
    rw [e]; exact this
  · have hnil : NumIn M (shs.map IntsV.xs) row[M.a.toNat].data.xs nilI.xs := ⟨hn.aLen, fun h => absurd h h6⟩
    have := values_all w' M _ s sv' hs shs[M.a.toNat] _ hpl hKn.kind.1 hM ht hah.a0 hah.b0 kb kc (row.map NodeV.data) hkr row[M.a.toNat].data nilI (fun _ => gt _ hla) (fun h => absurd h h6) (hrow _ (List.getElem_mem hla)).data (nil_ok w') hab (fun x hx => by simp [nilI] at hx) hnil
    rw [hkl] at this
    have e : numsP s (row.map NodeV.pl) M.pl = numsA M (entries s).toNat shs[M.a.toNat].xs row[M.a.toNat].data.xs nilI.xs := by
      unfold numsP
      rw [nums_pl, if_neg (show ¬ M.pl.kind = 6 from h6), eA, ← htx, cA.1]; rfl
    rw [e]; exact this
theorem shapes_snoc (l : List IntsV) (u : IntsV) : List.take l.length (shRows l) ++ [[u.val]] = shRows (l ++ [u]) := by
  rw [shRows_snoc, List.take_of_length_le (by rw [shRows_length]; exact Nat.le_refl _)]
theorem sane_snoc {l : List NodeV} {x : NodeV} (h : ∀ n ∈ l, n.saneN) (hx : x.saneN) : ∀ n ∈ l ++ [x], n.saneN := fun n hn => by
  rcases List.mem_append.1 hn with hn | hn
  · exact h n hn
  · rw [List.mem_singleton.1 hn]; exact hx
theorem in_snoc {l m : List IntsV} {x : IntsV} (h : ∀ n ∈ l, n ∈ m) (hx : x ∈ m) : ∀ n ∈ l ++ [x], n ∈ m := fun n hn => by
  rcases List.mem_append.1 hn with hn | hn
  · exact h n hn
  · rw [List.mem_singleton.1 hn]; exact hx
theorem step_lay {l : List NodeP} {sh : List (List Int)} {sp : List Sp} {i : Nat} {row : List NodeV} {shs : List IntsV} {st : List Nat} {n : NodeP} {X : NodeV} {u : IntsV} (hL : RowOk l sh sp) (hT : TidyAt l sh sp i (row.map NodeV.pl) st) (hn : l[i]? = some n) (hcr : checkR ((row.map NodeV.pl).map NodeP.toV) [] = (0, shs.map IntsV.xs)) (hX : foldP (gD sh i) (row.map NodeV.pl) (movedP st n) = X.pl) (hu : u.xs = gD sh i) :
    (∀ k, findP (row.map NodeV.pl) X.pl = some k → TidyAt l sh sp (i + 1) (row.map NodeV.pl) (st ++ [k])) ∧ (findP (row.map NodeV.pl) X.pl = none → TidyAt l sh sp (i + 1) ((row ++ [X]).map NodeV.pl) (st ++ [row.length]) ∧ checkR (((row ++ [X]).map NodeV.pl).map NodeP.toV) [] = (0, (shs ++ [u]).map IntsV.xs)) := by
  have hT' := hT.step hL hn
  unfold stepP layP at hT'
  simp only at hT'
  rw [hX] at hT'
  refine ⟨fun k hf => ?_, fun hf => ?_⟩
  · rw [hf] at hT'
    exact hT'
  · rw [hf] at hT'
    obtain ⟨rsh, rsp, hR, hS⟩ := hT.ok
    obtain rfl : rsh = shs.map IntsV.xs := by have := hR.checkR; rw [hcr, Prod.mk.injEq] at this; exact this.2.symm
    have hstl := hT.len
    have hn' : l[st.length]? = some n := by rw [hstl]; exact hn
    obtain ⟨hm, ht⟩ := fold_in hL hR hS hn'
    have hspn := (hL.span _ _ hn').2
    rw [hstl] at hm ht hspn
    rw [hX] at hm ht
    have hR' := hR.snoc hm (by unfold tight at ht; omega) (by unfold tight at ht; omega)
    have e1 : (row ++ [X]).map NodeV.pl = row.map NodeV.pl ++ [X.pl] := by simp
    have e2 : (shs ++ [u]).map IntsV.xs = shs.map IntsV.xs ++ [gD sh i] := by simp [hu]
    rw [e1, e2]
    refine ⟨?_, hR'.checkR⟩
    simp only [List.length_map] at hT'
    exact hT'
def Ref18Post (g : GraphV) (w : World) (r : Int) (x : List NodeP × Nat) (e : Ending) (w' : World) : Prop :=
  (r ≠ 0 ∧ e = .returned (.tuple #[.agg #[.slice none 0 0, .int .i64 0], .int .i64 r]) ∧ Ext w w') ∨
  (r = 0 ∧ ∃ (l : List NodeV) (base : Option Addr) (cap : Nat), l.map NodeV.pl = x.1 ∧ (∀ n ∈ l, n.saneN) ∧ l.length ≤ 24 ∧ e = .returned (.tuple #[.agg #[.slice base l.length cap, .int .i64 x.2], .int .i64 0]) ∧ Ext w w' ∧
    (rowsA base 9 (nodeRows l)).holds (fun b => w.heap.size ≤ b ∧ b < w'.heap.size) w' ∧ (rowA (srcG g) w.heap.size l).holds (fun b => b < w'.heap.size) w')
end Go.Proofs.Ytdmkdogakbipbaa

