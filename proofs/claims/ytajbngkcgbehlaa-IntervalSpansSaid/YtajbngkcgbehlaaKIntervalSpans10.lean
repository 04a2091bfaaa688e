import Derived.Test.YtajbngkcgbehlaaKIntervalSpans9
/- JR -/
namespace Go.Proofs.Ytajbngkcgbehlaa
open Go.SX Go.RowKit
def rpts (d : List Int) (a : Sp) : Nat → List Int
  | 0 => []
  | k + 1 => rpts d a k ++ (if a.1 ≤ turnI d + ((k : Int) - 2) ∧ turnI d + ((k : Int) - 2) ≤ a.2 then [powI d (turnI d + ((k : Int) - 2))] else [])
theorem mem_rpts {d : List Int} {a : Sp} {x : Int} : ∀ {m : Nat}, x ∈ rpts d a m ↔ ∃ k, k < m ∧ (a.1 ≤ turnI d + ((k : Int) - 2) ∧ turnI d + ((k : Int) - 2) ≤ a.2) ∧ x = powI d (turnI d + ((k : Int) - 2))
  | 0 => by simp [rpts]
  | m + 1 => by
    unfold rpts
    rw [List.mem_append, mem_rpts]
    constructor
    · rintro (⟨k, h1, h2⟩ | h)
      · exact ⟨k, by omega, h2⟩
      · split at h
        · rename_i hc
          exact ⟨m, by omega, hc, by simpa using h⟩
        · simp at h
    · rintro ⟨k, h1, h2, h3⟩
      rcases Nat.lt_or_ge k m with hk | hk
      · exact .inl ⟨k, hk, h2, h3⟩
      · obtain rfl : k = m := by omega
        right
        rw [if_pos h2, h3]
        simp
theorem rpts_len (d : List Int) (a : Sp) : ∀ m, (rpts d a m).length ≤ m
  | 0 => by simp [rpts]
  | m + 1 => by
    have := rpts_len d a m
    unfold rpts
    rw [List.length_append]
    split <;> simp <;> omega
def rends (d : List Int) (a : Sp) : List Int := [powI d a.1, powI d a.2] ++ rpts d a 5
theorem pow_sub {d : List Int} {a : Sp} (hz : d.getD 2 0 ≠ 0) {x : Int} (h : x ∈ powEnds d a) : x ∈ rends d a := by
  unfold powEnds at h
  rw [if_neg hz] at h
  unfold rends
  rcases List.mem_append.1 h with h | h
  · exact List.mem_append_left _ h
  · refine List.mem_append_right _ (mem_rpts.2 ?_)
    obtain ⟨v, hv, rfl⟩ := List.mem_map.1 h
    rw [mem_ptsL] at hv
    unfold hiI loI at hv
    refine ⟨(v - turnI d + 2).toNat, by omega, ?_⟩
    have e : turnI d + (((v - turnI d + 2).toNat : Int) - 2) = v := by omega
    rw [e]
    exact ⟨⟨by omega, by omega⟩, rfl⟩
theorem pow_span {d : List Int} {a : Sp} (hz : d.getD 2 0 ≠ 0) : spanE (rends d a) = spanE (powEnds d a) := by
  have hl1 : 1 ≤ (rends d a).length := by simp [rends]
  have hl2 : 1 ≤ (powEnds d a).length := List.length_pos_of_mem powEnds_lo
  have key : ∀ x ∈ rends d a, foldI min (powEnds d a) ≤ x ∧ x ≤ foldI max (powEnds d a) := fun x hx => by
    unfold rends at hx
    rcases List.mem_append.1 hx with hx | hx
    · simp only [List.mem_cons, List.not_mem_nil, or_false] at hx
      rcases hx with rfl | rfl
      · exact ⟨foldI_min_le powEnds_lo, foldI_max_ge powEnds_lo⟩
      · exact ⟨foldI_min_le powEnds_hi, foldI_max_ge powEnds_hi⟩
    · obtain ⟨k, _, h2, rfl⟩ := mem_rpts.1 hx
      exact pow_within h2.1 h2.2
  unfold spanE
  rw [Prod.mk.injEq]
  exact ⟨Int.le_antisymm (foldI_min_le (pow_sub hz (foldI_min_mem hl2))) (key _ (foldI_min_mem hl1)).1, Int.le_antisymm (key _ (foldI_max_mem hl1)).2 (foldI_max_ge (pow_sub hz (foldI_max_mem hl2)))⟩
theorem endsL_pow {n : NodeV} (hk : n.kind = 8) (a b : Sp) : endsL n a b = powEnds n.data.xs a := by
  unfold endsL powEnds
  rw [if_neg (by omega), if_neg (by omega), if_neg (by omega), if_neg (by omega), if_pos hk]
theorem powI_fit {d : List Int} (hd : ∀ x ∈ d, bd20 x) {v : Int} (hv : bd20 v) : i64 (powI d v) := by
  have h := pow_bd (getD_bd hd 2) (getD_bd hd 1) (getD_bd hd 0) hv
  have h0 := getD_bd hd 0
  unfold bd20 at h0
  unfold powI i64
  omega
theorem div_q {x y q : Int} {K : Int → Prop} (e : x.tdiv y = q) (hy : y ≠ 0) (hx : -4611686018427387904 ≤ x ∧ x ≤ 4611686018427387904) (h : K q) : divK .i64 x y K := by
  subst e; exact div_i64 hy hx h
set_option maxRecDepth 20000 in
set_option maxHeartbeats 4000000 in
theorem span_pow (w : World) (n : NodeV) (sv : ShapesV) (b2 : Option Addr) (c2 : Nat) (acc : List Sp) (b : Sp) (hk : n.kind = 8) (hno : n.ok w) (nd : ∀ x ∈ n.data.xs, bd20 x) (h8 : n.data.xs.length = 3) (ha0 : 0 ≤ n.a) (hacc : RowsI w b2 2 (spRows acc)) (hlt : n.a.toNat < acc.length) (hbd : bd20 (acc.getD n.a.toNat (0, 0)).1 ∧ bd20 (acc.getD n.a.toNat (0, 0)).2) : Calls Try.prog 79 #[n.valA, sv.val, .slice b2 acc.length c2] w fun e w' => e = .returned (spanV (spanE (endsL n (acc.getD n.a.toNat (0, 0)) b))) ∧ Ext w w' := by
  have hlinC : ∀ w', Calls Try.prog 111 #[.int .i64 n.kind] w' fun e w'' => e = .returned (.bool false) ∧ Ext w' w'' := fun w' => lin_no w' (by omega)
  have hna : n.a = (n.a.toNat : Int) := (Int.toNat_of_nonneg ha0).symm
  have hd := hno.data
  obtain ⟨a2, ha2⟩ : ∃ a, b2 = some a := base_some (j := n.a.toNat) hacc (by rw [spRows_length]; exact hlt)
  obtain ⟨ua, hua⟩ := hd.base (by omega)
  have hur : ∀ (R : Nat → Prop) w', (baseA w).holds R w' → RowsI w' (some ua) 1 (ints n.data.xs) := fun R w' h => by rw [← hua]; exact rows_base h hd.rows
  have hrowA := spRows_getD hlt
  rw [endsL_pow hk]
  generalize acc.getD n.a.toNat (0, 0) = a at *
  obtain ⟨p1, p2⟩ := hbd
  have g0 := getD_bd nd 0
  have g1 := getD_bd nd 1
  have g2 := getD_bd nd 2
  have hpw : ∀ v, powI n.data.xs v = n.data.xs.getD 2 0 * v * v + n.data.xs.getD 1 0 * v + n.data.xs.getD 0 0 := fun _ => rfl
  have hfit : ∀ v, bd20 v → i64 (powI n.data.xs v) := fun v hv => powI_fit nd hv
  have hps := pow_span (d := n.data.xs) (a := a)
  have hrl := rpts_len n.data.xs a
  have hT : turnI n.data.xs = (0 - n.data.xs.getD 1 0).tdiv (2 * n.data.xs.getD 2 0) := rfl
  have hTb : -1048576 ≤ turnI n.data.xs ∧ turnI n.data.xs ≤ 1048576 := by
    have h1 : ((0 - n.data.xs.getD 1 0).tdiv (2 * n.data.xs.getD 2 0)).natAbs ≤ (0 - n.data.xs.getD 1 0).natAbs := by rw [Int.natAbs_tdiv]; exact Nat.div_le_self _ _
    rw [hT]
    unfold bd20 at g1
    omega
  generalize hd0 : n.data.xs.getD 0 0 = d0 at *
  generalize hd1 : n.data.xs.getD 1 0 = d1 at *
  generalize hd2 : n.data.xs.getD 2 0 = d2 at *
  have hpc : ∀ v w', bd20 v → Calls Try.prog 113 #[.int .i64 d0, .int .i64 d1, .int .i64 d2, .int .i64 v] w' fun e w'' => e = .returned (.int .i64 (powI n.data.xs v)) ∧ Ext w' w'' := fun v w' hv => by rw [hpw]; exact rpower_any w' d0 d1 d2 v g0 g1 g2 hv
  have hpe : ∀ hz : d2 = 0, powEnds n.data.xs a = [powI n.data.xs a.1, powI n.data.xs a.2] := fun hz => by unfold powEnds; rw [hd2, if_pos hz]
  clear hpw
  refine calls_of tab tabOk Try.func79 rfl rfl rfl [] (fun _ => ⟨none, 0⟩) [.agg [.c (.int .i64 n.kind), .c (.int .i64 n.a), .c (.int .i64 n.b), .c n.shape.val, .c (.int .i64 n.lo), .c (.int .i64 n.hi), .c (.int .i64 n.size), .c n.data.val, .c n.bias.val], .c sv.val, .c (.slice b2 acc.length c2)] [] (baseA w) 0 rfl rfl (by show 3 ≤ _; decide) (abs_base w) ?_
  by_cases hz : d2 = 0
  · rw [hpe hz]
    (repeat' ((conv => whnf) <;> first | (show callK _ 111 _ _ _ _ _; (refine call_pure (f := 111) Try.call111 (.bool false) (fun ρ w' hw => hlinC w') ?_)) | (show idxK _ _ _ _ _; (first | refine idx_of a2 n.a.toNat ha2 hna hlt ?_ | refine idx_of ua 0 hua rfl (by omega) ?_ | refine idx_of ua 1 hua rfl (by omega) ?_ | refine idx_of ua 2 hua rfl (by omega) ?_)) | (show roAggK _ _ _ _; (refine roAgg_row (fun R w' h => by rw [← ha2]; exact rows_base h hacc) _ hrowA rfl ?_)) | (show roK _ _ _; (first | refine ro_intv hur (j := 0) (by omega) hd0 ?_ | refine ro_intv hur (j := 1) (by omega) hd1 ?_ | refine ro_intv hur (j := 2) (by omega) hd2 ?_)) | (show callK _ 113 [.c (.int .i64 d0), .c (.int .i64 d1), .c (.int .i64 d2), .c (.int .i64 a.1)] _ _ _ _; (refine call_pure (f := 113) Try.call113 (.int .i64 (powI n.data.xs a.1)) (fun ρ w' hw => hpc a.1 w' p1) ?_)) | (show callK _ 113 [.c (.int .i64 d0), .c (.int .i64 d1), .c (.int .i64 d2), .c (.int .i64 a.2)] _ _ _ _; (refine call_pure (f := 113) Try.call113 (.int .i64 (powI n.data.xs a.2)) (fun ρ w' hw => hpc a.2 w' p2) ?_)) | (show ownK _ _ _ _ _; (refine freeze_intsI (w0 := w) [powI n.data.xs a.1, powI n.data.xs a.2] (fun R w' h => h) rfl rfl (fun x hx => by simp only [List.mem_cons, List.not_mem_nil, or_false] at hx; rcases hx with rfl | rfl; exact hfit _ p1; exact hfit _ p2) (by simp) (fun u hu hus => ?_))) | (show callK _ 110 _ _ _ _ _; (refine call_pure (f := 110) Try.call110 (spanV (spanE [powI n.data.xs a.1, powI n.data.xs a.2])) (fun ρ w' hw => hu ▸ cover_any w' u (holds_of_abs hw fun R h => intsA_ok hus ((intsA u).mono h.2 (fun b hb => hb.1))) (by rw [hu]; simp)) ?_)) | (show drawK _ 8 _ _ _ _ _ _; (refine draw_quiet tabOk mixed (by kernel_rfl) ?_)) | (show drawK _ 13 _ _ _ _ _ _; (refine draw_quiet tabOk mixed (by kernel_rfl) ?_)) | (show drawK _ 28 _ _ _ _ _ _; (refine draw_tree tabOk mixed [16] _ (.take 0 (.take 1 (.take 2 (.take 3 (.take 4 (.take 5 (.take 6 (.take 7 (.take 8 (.take 9 (.take 10 (.take 11 (.take 12 (.take 13 (.one 14 (.one 15 (.one 16 (.done)))))))))))))))))) (by kernel_rfl) (by kernel_rfl) (by kernel_rfl) (List.Sublist.refl _) ?_)) | (show drawK _ 30 _ _ _ _ _ _; (refine draw_quiet tabOk mixed (by kernel_rfl) ?_)) | (show drawK _ 31 _ _ _ _ _ _; (refine draw_tree tabOk mixed [] _ (.take 0 (.take 1 (.take 2 (.take 3 (.take 4 (.take 6 (.take 7 (.take 8 (.take 9 (.take 10 (.one 5 (.one 11 (.one 12 (.take 13 (.done))))))))))))))) (by kernel_rfl) (by kernel_rfl) (by kernel_rfl) (List.Sublist.refl _) ?_)) | (show Wp _ _ _ _ _ _ _; (refine Wp.go tabOk rfl ?_)) | (show @cmpK _ _ _; (first | refine cmp_yes (by omega) ?_ | refine cmp_no (by omega) ?_ | (refine cmp_both ?_ ?_ <;> intro _))) | (show wrapK _ _ _; (refine wrap_i64 (by omega) (by omega) ?_)) | (show leK _ _ _; (refine le_of (by first | exact Nat.le_refl _ | omega) ?_)) | (show roomK _ _ _; (refine room_of (by first | omega | (dsimp only; omega)) ?_)) | (show ltK _ _ _; (refine lt_of (by omega) ?_)) | (show _ ∧ _; (refine ⟨?_, ?_⟩)) | (show keepK _ _ _ _ _; (refine keep_of (by first | exact List.Sublist.refl _ | exact List.Sublist.cons _ (List.Sublist.refl _) | exact List.Sublist.cons _ (List.Sublist.cons _ (List.Sublist.refl _)) | exact List.Sublist.cons _ (List.Sublist.cons _ (List.Sublist.cons _ (List.Sublist.refl _)))) (by first | exact (fun _ _ h => h) | exact (fun _ _ h => h.1) | exact (fun _ _ h => h.1.1)) ?_)) | (show ownK _ _ _ _ _; (refine own_keep ?_))))
    all_goals (conv => whnf)
    all_goals exact ends_of (fun _ _ h => h.1) (fun _ => rfl) rfl
  · rw [← hps hz]
    (repeat' ((conv => whnf) <;> first | (show callK _ 111 _ _ _ _ _; (refine call_pure (f := 111) Try.call111 (.bool false) (fun ρ w' hw => hlinC w') ?_)) | (show idxK _ _ _ _ _; (first | refine idx_of a2 n.a.toNat ha2 hna hlt ?_ | refine idx_of ua 0 hua rfl (by omega) ?_ | refine idx_of ua 1 hua rfl (by omega) ?_ | refine idx_of ua 2 hua rfl (by omega) ?_)) | (show roAggK _ _ _ _; (refine roAgg_row (fun R w' h => by rw [← ha2]; exact rows_base h hacc) _ hrowA rfl ?_)) | (show roK _ _ _; (first | refine ro_intv hur (j := 0) (by omega) hd0 ?_ | refine ro_intv hur (j := 1) (by omega) hd1 ?_ | refine ro_intv hur (j := 2) (by omega) hd2 ?_)) | (show callK _ 113 [.c (.int .i64 d0), .c (.int .i64 d1), .c (.int .i64 d2), .c (.int .i64 a.1)] _ _ _ _; (refine call_pure (f := 113) Try.call113 (.int .i64 (powI n.data.xs a.1)) (fun ρ w' hw => hpc a.1 w' p1) ?_)) | (show callK _ 113 [.c (.int .i64 d0), .c (.int .i64 d1), .c (.int .i64 d2), .c (.int .i64 a.2)] _ _ _ _; (refine call_pure (f := 113) Try.call113 (.int .i64 (powI n.data.xs a.2)) (fun ρ w' hw => hpc a.2 w' p2) ?_)) | (show drawK _ 8 _ _ _ _ _ _; (refine draw_quiet tabOk mixed (by kernel_rfl) ?_)) | (show drawK _ 13 _ _ _ _ _ _; (refine draw_quiet tabOk mixed (by kernel_rfl) ?_)) | (show drawK _ 28 _ _ _ _ _ _; (refine draw_tree tabOk mixed [16] _ (.take 0 (.take 1 (.take 2 (.take 3 (.take 4 (.take 5 (.take 6 (.take 7 (.take 8 (.take 9 (.take 10 (.take 11 (.take 12 (.take 13 (.one 14 (.one 15 (.one 16 (.done)))))))))))))))))) (by kernel_rfl) (by kernel_rfl) (by kernel_rfl) (List.Sublist.refl _) ?_)) | (show drawK _ 30 _ _ _ _ _ _; (refine draw_quiet tabOk mixed (by kernel_rfl) ?_)) | (show drawK _ 31 _ _ _ _ _ _; (refine draw_tree tabOk mixed [] _ (.take 0 (.take 1 (.take 2 (.take 3 (.take 4 (.take 6 (.take 7 (.take 8 (.take 9 (.take 10 (.one 5 (.one 11 (.one 12 (.take 13 (.done))))))))))))))) (by kernel_rfl) (by kernel_rfl) (by kernel_rfl) (List.Sublist.refl _) ?_)) | (show Wp _ _ _ _ _ _ _; (refine Wp.go tabOk rfl ?_)) | (show @cmpK _ _ _; (first | refine cmp_yes (by omega) ?_ | refine cmp_no (by omega) ?_ | (refine cmp_both ?_ ?_ <;> intro _))) | (show wrapK _ _ _; (refine wrap_i64 (by omega) (by omega) ?_)) | (show leK _ _ _; (refine le_of (by first | exact Nat.le_refl _ | omega) ?_)) | (show roomK _ _ _; (refine room_of (by first | omega | (dsimp only; omega)) ?_)) | (show ltK _ _ _; (refine lt_of (by omega) ?_)) | (show _ ∧ _; (refine ⟨?_, ?_⟩)) | (show keepK _ _ _ _ _; (refine keep_of (by first | exact List.Sublist.refl _ | exact List.Sublist.cons _ (List.Sublist.refl _) | exact List.Sublist.cons _ (List.Sublist.cons _ (List.Sublist.refl _)) | exact List.Sublist.cons _ (List.Sublist.cons _ (List.Sublist.cons _ (List.Sublist.refl _)))) (by first | exact (fun _ _ h => h) | exact (fun _ _ h => h.1) | exact (fun _ _ h => h.1.1)) ?_)) | (show ownK _ _ _ _ _; (refine own_keep ?_))))
    all_goals (conv => whnf)
    have p1' := p1
    have p2' := p2
    unfold bd20 at p1' p2' g1 g2
    refine Wp.loop (σ := Nat × Int × Nat) 5 (fun ⟨k, d, m⟩ => [(6, .lp 1 0 0 0), (7, .lp 2 0 0 0), (18, .c (.int .i64 d0)), (19, .c (.int .i64 d1)), (20, .c (.int .i64 d2)), (21, .os 4 m), (22, .c (.int .i64 d))]) (fun ⟨k, d, m⟩ => [(4, .rows (ints ([powI n.data.xs a.1, powI n.data.xs a.2] ++ rpts n.data.xs a k)) 1 3), (2, .box [.c (.int .i64 a.1), .c (.int .i64 a.2)] 67), (1, .box [.c (.int .i64 0), .c (.int .i64 0)] 67)]) (fun _ => baseA w)
      (fun ⟨k, d, m⟩ => k ≤ 5 ∧ d = (k : Int) - 2 ∧ m = ([powI n.data.xs a.1, powI n.data.xs a.2] ++ rpts n.data.xs a k).length) (fun s => 5 - s.1) (0, -2, 2) [(4, some 3)] (by decide) (fun s => ⟨rfl, rfl⟩) ⟨by decide, rfl, rfl⟩ ⟨rfl, ⟨rfl, rfl, rfl, rfl, rfl, rfl, rfl, trivial⟩, ⟨(by repeat (first | exact List.mem_cons_self | apply List.mem_cons_of_mem)), (by repeat (first | exact List.mem_cons_self | apply List.mem_cons_of_mem)), (by repeat (first | exact List.mem_cons_self | apply List.mem_cons_of_mem)), trivial⟩, fun _ _ h => h⟩ ?_
    rintro ⟨k, d, m⟩ ⟨hk5, hdk, hm⟩
    have hrl2 := hrl k
    by_cases hkl : k < 5
    · have hrs : rpts n.data.xs a (k + 1) = rpts n.data.xs a k ++ (if a.1 ≤ turnI n.data.xs + d ∧ turnI n.data.xs + d ≤ a.2 then [powI n.data.xs (turnI n.data.xs + d)] else []) := by rw [hdk]; rfl
      have hm7 : m ≤ 7 := by rw [hm]; simp; omega
      (repeat' ((conv => whnf) <;> first | (show divK _ _ _ _; (refine div_q hT.symm (by omega) (by omega) ?_)) | (show callK _ 113 _ _ _ _ _; (refine call_pure (f := 113) Try.call113 (.int .i64 (powI n.data.xs (turnI n.data.xs + d))) (fun ρ w' hw => hpc (turnI n.data.xs + d) w' ⟨by omega, by omega⟩) ?_)) | (show leK _ _ _; (refine le_of (by rw [ints_length, hm]; exact Nat.le_refl _) ?_)) | (show roomK _ _ _; (refine room_of (by show (m + 1) * 8 ≤ 140737488355328; omega) ?_)) | (show drawK _ 8 _ _ _ _ _ _; (refine draw_quiet tabOk mixed (by kernel_rfl) ?_)) | (show drawK _ 13 _ _ _ _ _ _; (refine draw_quiet tabOk mixed (by kernel_rfl) ?_)) | (show drawK _ 28 _ _ _ _ _ _; (refine draw_tree tabOk mixed [16] _ (.take 0 (.take 1 (.take 2 (.take 3 (.take 4 (.take 5 (.take 6 (.take 7 (.take 8 (.take 9 (.take 10 (.take 11 (.take 12 (.take 13 (.one 14 (.one 15 (.one 16 (.done)))))))))))))))))) (by kernel_rfl) (by kernel_rfl) (by kernel_rfl) (List.Sublist.refl _) ?_)) | (show drawK _ 30 _ _ _ _ _ _; (refine draw_quiet tabOk mixed (by kernel_rfl) ?_)) | (show drawK _ 31 _ _ _ _ _ _; (refine draw_tree tabOk mixed [] _ (.take 0 (.take 1 (.take 2 (.take 3 (.take 4 (.take 6 (.take 7 (.take 8 (.take 9 (.take 10 (.one 5 (.one 11 (.one 12 (.take 13 (.done))))))))))))))) (by kernel_rfl) (by kernel_rfl) (by kernel_rfl) (List.Sublist.refl _) ?_)) | (show Wp _ _ _ _ _ _ _; (refine Wp.go tabOk rfl ?_)) | (show @cmpK _ _ _; (first | refine cmp_yes (by omega) ?_ | refine cmp_no (by omega) ?_ | (refine cmp_both ?_ ?_ <;> intro _))) | (show wrapK _ _ _; (refine wrap_i64 (by omega) (by omega) ?_)) | (show leK _ _ _; (refine le_of (by first | exact Nat.le_refl _ | omega) ?_)) | (show roomK _ _ _; (refine room_of (by first | omega | (dsimp only; omega)) ?_)) | (show ltK _ _ _; (refine lt_of (by omega) ?_)) | (show _ ∧ _; (refine ⟨?_, ?_⟩)) | (show keepK _ _ _ _ _; (refine keep_of (by first | exact List.Sublist.refl _ | exact List.Sublist.cons _ (List.Sublist.refl _) | exact List.Sublist.cons _ (List.Sublist.cons _ (List.Sublist.refl _)) | exact List.Sublist.cons _ (List.Sublist.cons _ (List.Sublist.cons _ (List.Sublist.refl _)))) (by first | exact (fun _ _ h => h) | exact (fun _ _ h => h.1) | exact (fun _ _ h => h.1.1)) ?_)) | (show ownK _ _ _ _ _; (refine own_keep ?_))))
      all_goals (conv => whnf)
      all_goals first | exact ⟨(k + 1, _, m + 1), [(4, some 6)], ⟨hkl, by omega, by rw [hrs, if_pos ⟨by omega, by omega⟩, ← List.append_assoc, List.length_append, ← hm]; rfl⟩, by simp only; omega, rfl, ⟨rfl, rfl, rfl, rfl, rfl, rfl, rfl, trivial⟩, ⟨by
        show (6, Ent.rows (ints ([powI n.data.xs a.1, powI n.data.xs a.2] ++ rpts n.data.xs a (k + 1))) 1 3) ∈ _
        rw [hrs, if_pos ⟨by omega, by omega⟩, ← List.append_assoc]; exact ints_snocM _ _ hm, (by repeat (first | exact List.mem_cons_self | apply List.mem_cons_of_mem)), (by repeat (first | exact List.mem_cons_self | apply List.mem_cons_of_mem)), trivial⟩, fun _ _ h => h⟩ | exact ⟨(k + 1, _, m), [(4, some 4)], ⟨hkl, by omega, by rw [hrs, if_neg (by omega), List.append_nil]; exact hm⟩, by simp only; omega, rfl, ⟨rfl, rfl, rfl, rfl, rfl, rfl, rfl, trivial⟩, ⟨by
        show (4, Ent.rows (ints ([powI n.data.xs a.1, powI n.data.xs a.2] ++ rpts n.data.xs a (k + 1))) 1 3) ∈ _
        rw [hrs, if_neg (by omega), List.append_nil]; exact (by repeat (first | exact List.mem_cons_self | apply List.mem_cons_of_mem)), (by repeat (first | exact List.mem_cons_self | apply List.mem_cons_of_mem)), (by repeat (first | exact List.mem_cons_self | apply List.mem_cons_of_mem)), trivial⟩, fun _ _ h => h⟩
    · have hkz : k = 5 := by omega
      subst hkz
      subst hm
      refine Wp.freezeN 4 w.heap.size (k := 1) (xs := ints (rends n.data.xs a)) (T := 3) (by repeat (first | exact List.mem_cons_self | apply List.mem_cons_of_mem)) (fun R w' h b hb => (h b hb).1) (fun l1 hl1 => ?_)
      rw [ints_length] at hl1
      have hfits : ∀ x ∈ rends n.data.xs a, i64 x := fun x hx => by
        unfold rends at hx
        rcases List.mem_append.1 hx with hx | hx
        · simp only [List.mem_cons, List.not_mem_nil, or_false] at hx
          rcases hx with rfl | rfl
          · exact hfit _ p1
          · exact hfit _ p2
        · obtain ⟨k, _, h2, rfl⟩ := mem_rpts.1 hx
          exact hfit _ ⟨by omega, by omega⟩
      (repeat' ((conv => whnf) <;> first | (show callK _ 110 _ _ _ _ _; (refine call_pure (f := 110) Try.call110 (spanV (spanE (rends n.data.xs a))) (fun ρ w' hw => cover_any w' ⟨l1.base, l1.cap, rends n.data.xs a⟩ (holds_of_abs hw fun R h => ⟨rowsA_in h.2, hfits, hl1, by simp only [rends]; simp; omega⟩) (by simp [rends])) ?_)) | (show drawK _ 8 _ _ _ _ _ _; (refine draw_quiet tabOk mixed (by kernel_rfl) ?_)) | (show drawK _ 13 _ _ _ _ _ _; (refine draw_quiet tabOk mixed (by kernel_rfl) ?_)) | (show drawK _ 28 _ _ _ _ _ _; (refine draw_tree tabOk mixed [16] _ (.take 0 (.take 1 (.take 2 (.take 3 (.take 4 (.take 5 (.take 6 (.take 7 (.take 8 (.take 9 (.take 10 (.take 11 (.take 12 (.take 13 (.one 14 (.one 15 (.one 16 (.done)))))))))))))))))) (by kernel_rfl) (by kernel_rfl) (by kernel_rfl) (List.Sublist.refl _) ?_)) | (show drawK _ 30 _ _ _ _ _ _; (refine draw_quiet tabOk mixed (by kernel_rfl) ?_)) | (show drawK _ 31 _ _ _ _ _ _; (refine draw_tree tabOk mixed [] _ (.take 0 (.take 1 (.take 2 (.take 3 (.take 4 (.take 6 (.take 7 (.take 8 (.take 9 (.take 10 (.one 5 (.one 11 (.one 12 (.take 13 (.done))))))))))))))) (by kernel_rfl) (by kernel_rfl) (by kernel_rfl) (List.Sublist.refl _) ?_)) | (show Wp _ _ _ _ _ _ _; (refine Wp.go tabOk rfl ?_)) | (show @cmpK _ _ _; (first | refine cmp_yes (by omega) ?_ | refine cmp_no (by omega) ?_ | (refine cmp_both ?_ ?_ <;> intro _))) | (show wrapK _ _ _; (refine wrap_i64 (by omega) (by omega) ?_)) | (show leK _ _ _; (refine le_of (by first | exact Nat.le_refl _ | omega) ?_)) | (show roomK _ _ _; (refine room_of (by first | omega | (dsimp only; omega)) ?_)) | (show ltK _ _ _; (refine lt_of (by omega) ?_)) | (show _ ∧ _; (refine ⟨?_, ?_⟩)) | (show keepK _ _ _ _ _; (refine keep_of (by first | exact List.Sublist.refl _ | exact List.Sublist.cons _ (List.Sublist.refl _) | exact List.Sublist.cons _ (List.Sublist.cons _ (List.Sublist.refl _)) | exact List.Sublist.cons _ (List.Sublist.cons _ (List.Sublist.cons _ (List.Sublist.refl _)))) (by first | exact (fun _ _ h => h) | exact (fun _ _ h => h.1) | exact (fun _ _ h => h.1.1)) ?_)) | (show ownK _ _ _ _ _; (refine own_keep ?_))))
      all_goals (conv => whnf)
      all_goals exact ends_of (fun _ _ h => h.1) (fun _ => rfl) rfl
end Go.Proofs.Ytajbngkcgbehlaa
/- IX -/
namespace Go.Proofs.Ytajbngkcgbehlaa
open Go.SX Go.RowKit
theorem getD_memL {l : List (List Int)} {k : Nat} (h : k < l.length) : l.getD k [] ∈ l := by
  rw [List.getD_eq_getElem?_getD, List.getElem?_eq_getElem h]; exact List.getElem_mem h
def endsAt (sh : List (List Int)) (n : NodeV) (acc : List Sp) : List Int := endsA n (entries (sh.getD acc.length [])).toNat (sh.getD n.a.toNat []) (acc.getD n.a.toNat (0, 0)) (acc.getD n.b.toNat (0, 0))
def spansQ (sh : List (List Int)) : List NodeV → List Sp → Int × List Sp
  | [], acc => (0, acc)
  | n :: r, acc =>
    if foldI min (endsAt sh n acc) < -1048576 ∨ 1048576 < foldI max (endsAt sh n acc) then (5, [])
    else spansQ sh r (acc ++ [(foldI min (endsAt sh n acc), foldI max (endsAt sh n acc))])
def spansH (g : GraphV) : Int × List Sp := if (check g).1 ≠ 0 then ((check g).1, []) else spansQ (check g).2 g.l []
/-- a node of a graph that may be stands at its place -/
theorem place_in {g : GraphV} (h : (check g).1 = 0) {i : Nat} {n : NodeV} (hn : g.l[i]? = some n) : (0 ≤ n.a ∧ n.a.toNat < (check g).2.length ∧ (n.a.toNat < i ∨ n.a.toNat = 0)) ∧ (0 ≤ n.b ∧ n.b.toNat < (check g).2.length ∧ (n.b.toNat < i ∨ n.b.toNat = 0)) ∧ ∃ cnt : Nat, entries ((check g).2.getD i []) = cnt ∧ PlaceIn n ((check g).2.take i) ((check g).2.getD i []) ((check g).2.getD n.a.toNat []) cnt := by
  obtain ⟨hl1, hl24, hout, hcl, hin⟩ := check_in h
  have hpos := shapes_pos h
  obtain ⟨hlt, _⟩ := List.getElem?_eq_some_iff.1 hn
  obtain ⟨s, hs, hni⟩ := hin i n hn
  have hti : ((check g).2.take i).length = i := by rw [List.length_take, hcl]; omega
  have hform := hni.form
  rw [hti] at hform
  obtain ⟨hA, hB, _⟩ := ahead_of hform
  have hfo := formed_of hform
  have e1 : (check g).2.getD i [] = s := by rw [List.getD_eq_getElem?_getD, hs]; rfl
  rw [e1]
  refine ⟨⟨hA.1, by omega, by omega⟩, ⟨hB.1, by omega, by omega⟩, (entries s).toNat, by have := (entries_bd s).1; omega, ⟨hni, by have := (entries_bd s).1; omega, fun q hq => hpos q (List.mem_of_mem_take hq), fun hl => ?_⟩⟩
  unfold isLin at hl
  have ha := hfo.a (by omega) (by omega)
  have e2 : ((check g).2.take i).getD n.a.toNat [] = (check g).2.getD n.a.toNat [] := by
    rw [List.getD_eq_getElem?_getD, List.getD_eq_getElem?_getD, List.getElem?_take, if_pos (by omega)]
  refine ⟨e2, hpos _ (getD_memL (by omega))⟩
set_option maxRecDepth 20000 in
theorem spans_all (w : World) (g : GraphV) (hg : g.ok w) : Calls Try.prog 34 #[g.val] w (SpansPost w (spansH g)) := by
  refine calls_of tab tabOk Try.func34 rfl rfl rfl [] (fun _ => ⟨none, 0⟩) [.agg [.c (.slice g.base g.l.length g.cap), .c (.int .i64 g.out)]] [] (baseA w) 0 rfl rfl (by show 1 ≤ _; decide) (abs_base w) ?_
  (repeat' ((conv => whnf) <;> first | (show drawK _ 9 _ _ _ _ _ _; (refine draw_quiet tabOk mixed (by kernel_rfl) ?_)) | (show Wp _ _ _ _ _ _ _; (refine Wp.go tabOk rfl ?_)) | (show @cmpK _ _ _; (first | refine cmp_yes (by omega) ?_ | refine cmp_no (by omega) ?_ | (refine cmp_both ?_ ?_ <;> intro _))) | (show wrapK _ _ _; (refine wrap_i64 (by omega) (by omega) ?_)) | (show leK _ _ _; (refine le_of (by first | exact Nat.le_refl _ | omega) ?_)) | (show roomK _ _ _; (refine room_of (by first | omega | (dsimp only; omega)) ?_)) | (show ltK _ _ _; (refine lt_of (by omega) ?_)) | (show _ ∧ _; (refine ⟨?_, ?_⟩)) | (show keepK _ _ _ _ _; (refine keep_of (by first | exact List.Sublist.refl _ | exact List.Sublist.cons _ (List.Sublist.refl _) | exact List.Sublist.cons _ (List.Sublist.cons _ (List.Sublist.refl _)) | exact List.Sublist.cons _ (List.Sublist.cons _ (List.Sublist.cons _ (List.Sublist.refl _)))) (by first | exact (fun _ _ h => h) | exact (fun _ _ h => h.1) | exact (fun _ _ h => h.1.1)) ?_)) | (show ownK _ _ _ _ _; (refine own_keep ?_))))
  refine call_check (f := 17) (check g) Try.call17 (fun ρ w' hw => check_any w' g (holds_of_abs hw fun R h => hg.later h)) (fun hne => ?_) (fun he sv hm hsv => ?_)
  · have hq : spansH g = ((check g).1, []) := if_pos hne
    rw [hq]
    (repeat' ((conv => whnf) <;> first | (show @cmpK _ _ _; (refine cmp_yes hne ?_)) | (show drawK _ 9 _ _ _ _ _ _; (refine draw_quiet tabOk mixed (by kernel_rfl) ?_)) | (show Wp _ _ _ _ _ _ _; (refine Wp.go tabOk rfl ?_)) | (show @cmpK _ _ _; (first | refine cmp_yes (by omega) ?_ | refine cmp_no (by omega) ?_ | (refine cmp_both ?_ ?_ <;> intro _))) | (show wrapK _ _ _; (refine wrap_i64 (by omega) (by omega) ?_)) | (show leK _ _ _; (refine le_of (by first | exact Nat.le_refl _ | omega) ?_)) | (show roomK _ _ _; (refine room_of (by first | omega | (dsimp only; omega)) ?_)) | (show ltK _ _ _; (refine lt_of (by omega) ?_)) | (show _ ∧ _; (refine ⟨?_, ?_⟩)) | (show keepK _ _ _ _ _; (refine keep_of (by first | exact List.Sublist.refl _ | exact List.Sublist.cons _ (List.Sublist.refl _) | exact List.Sublist.cons _ (List.Sublist.cons _ (List.Sublist.refl _)) | exact List.Sublist.cons _ (List.Sublist.cons _ (List.Sublist.cons _ (List.Sublist.refl _)))) (by first | exact (fun _ _ h => h) | exact (fun _ _ h => h.1) | exact (fun _ _ h => h.1.1)) ?_)) | (show ownK _ _ _ _ _; (refine own_keep ?_))))
    conv => whnf
    exact spans_bad (fun _ _ h => h) rfl hne (fun _ => rfl)
  have hq : spansH g = spansQ (check g).2 g.l [] := if_neg (fun h => h he)
  rw [hq]
  obtain ⟨hl1, hl24, hout, hcl, hin⟩ := check_in he
  have hsl : sv.l.length = g.l.length := by rw [← hcl, ← hm]; simp
  (repeat' ((conv => whnf) <;> first | (show makeK _ _ _ _; (refine make_of g.l.length rfl rfl (by show 16 * _ ≤ _; omega) (by omega) ?_)) | (show drawK _ 9 _ _ _ _ _ _; (refine draw_quiet tabOk mixed (by kernel_rfl) ?_)) | (show Wp _ _ _ _ _ _ _; (refine Wp.go tabOk rfl ?_)) | (show @cmpK _ _ _; (first | refine cmp_yes (by omega) ?_ | refine cmp_no (by omega) ?_ | (refine cmp_both ?_ ?_ <;> intro _))) | (show wrapK _ _ _; (refine wrap_i64 (by omega) (by omega) ?_)) | (show leK _ _ _; (refine le_of (by first | exact Nat.le_refl _ | omega) ?_)) | (show roomK _ _ _; (refine room_of (by first | omega | (dsimp only; omega)) ?_)) | (show ltK _ _ _; (refine lt_of (by omega) ?_)) | (show _ ∧ _; (refine ⟨?_, ?_⟩)) | (show keepK _ _ _ _ _; (refine keep_of (by first | exact List.Sublist.refl _ | exact List.Sublist.cons _ (List.Sublist.refl _) | exact List.Sublist.cons _ (List.Sublist.cons _ (List.Sublist.refl _)) | exact List.Sublist.cons _ (List.Sublist.cons _ (List.Sublist.cons _ (List.Sublist.refl _)))) (by first | exact (fun _ _ h => h) | exact (fun _ _ h => h.1) | exact (fun _ _ h => h.1.1)) ?_)) | (show ownK _ _ _ _ _; (refine own_keep ?_))))
  refine Wp.loop (σ := Nat × List Sp) 2 (fun ⟨i, _⟩ => [(6, .os 1 g.l.length), (4, .c sv.val), (24, .c (.slice g.base g.l.length g.cap)), (25, .c (.int .i64 g.l.length)), (26, .c (.int .i64 i))]) (fun ⟨_, acc⟩ => [(1, .rows (spRows (gridS g.l.length acc)) 2 67)]) (fun _ => (baseA w).and ((shapesD sv).past w.heap.size))
    (fun ⟨i, acc⟩ => i ≤ g.l.length ∧ acc.length = i ∧ spansQ (check g).2 (g.l.drop i) acc = spansQ (check g).2 g.l [] ∧ (∀ s ∈ acc, bd20 s.1 ∧ bd20 s.2)) (fun s => g.l.length - s.1) (0, []) [] (by decide) (fun s => ⟨rfl, rfl⟩) ⟨Nat.zero_le _, rfl, rfl, fun s hs => by simp at hs⟩ ⟨rfl, ⟨rfl, rfl, rfl, rfl, rfl, trivial⟩, ⟨?_, trivial⟩, fun _ _ h => h⟩ ?_
  · have : spRows (gridS g.l.length []) = List.replicate g.l.length [Value.int .i64 0, .int .i64 0] := by simp [spRows, gridS]
    show (1, Ent.rows (spRows (gridS g.l.length [])) 2 67) ∈ _
    rw [this]
    exact (by repeat (first | exact List.mem_cons_self | apply List.mem_cons_of_mem))
  rintro ⟨i, acc⟩ ⟨hi, hal, hsp, hab⟩
  by_cases hlt : i < g.l.length
  · obtain ⟨a, ha⟩ : ∃ a, g.base = some a := base_some (j := i) hg.rows (by rw [nodeRows_length]; omega)
    have hnm := List.getElem_mem hlt
    obtain ⟨s, hs, hni⟩ := hin i g.l[i] (List.getElem?_eq_getElem hlt)
    have hdrop : g.l.drop i = g.l[i] :: g.l.drop (i + 1) := List.drop_eq_getElem_cons hlt
    rw [hdrop] at hsp
    have hrow := nodeRows_get hlt
    have hpi := place_in he (List.getElem?_eq_getElem hlt)
    generalize g.l[i] = n at *
    have hn := hg.each n hnm
    obtain ⟨⟨ha0, hal2, hai⟩, ⟨hb0, hbl2, hbi⟩, cnt, hcnt, hpl⟩ := hpi
    have e1 : (check g).2.getD i [] = s := by rw [List.getD_eq_getElem?_getD, hs]; rfl
    rw [e1] at hcnt hpl
    obtain ⟨u, hu, hus⟩ : ∃ u, sv.l[i]? = some u ∧ u.xs = s := by
      rw [← hm, List.getElem?_map] at hs
      cases hu : sv.l[i]? with
      | none => rw [hu] at hs; simp at hs
      | some u => rw [hu] at hs; exact ⟨u, rfl, by simpa using hs⟩
    obtain ⟨t, ht, hts⟩ : ∃ t, sv.l[n.a.toNat]? = some t ∧ t.xs = (check g).2.getD n.a.toNat [] := by
      have hlt2 : n.a.toNat < sv.l.length := by omega
      refine ⟨sv.l[n.a.toNat], List.getElem?_eq_getElem hlt2, ?_⟩
      rw [← hm, List.getD_eq_getElem?_getD, List.getElem?_map, List.getElem?_eq_getElem hlt2]; rfl
    have htm : t ∈ sv.l := List.mem_of_getElem? ht
    have hucnt : entries u.xs = cnt := by rw [hus]; exact hcnt
    rw [← hts] at hpl
    have hEq : endsAt (check g).2 n acc = endsA n cnt t.xs (acc.getD n.a.toNat (0, 0)) (acc.getD n.b.toNat (0, 0)) := by
      unfold endsAt
      rw [hal, e1, hcnt, hts]; rfl
    have hA2 := getD_sp hab n.a.toNat
    have hB2 := getD_sp hab n.b.toNat
    have hEL := endsA_len hpl (acc.getD n.a.toNat (0, 0)) (acc.getD n.b.toNat (0, 0))
    have gA := gridS_getD (n := g.l.length) (acc := acc) (j := n.a.toNat) (by omega) (by omega)
    have gB := gridS_getD (n := g.l.length) (acc := acc) (j := n.b.toNat) (by omega) (by omega)
    (repeat' ((conv => whnf) <;> first | (show idxK _ _ _ _ _; (refine idx_of a i ha rfl hlt ?_)) | (show roAggK _ _ _ _; (refine roAgg_row (fun R w' h => by rw [← ha]; exact rows_base h.1 hg.rows) _ hrow rfl ?_)) | (show callK _ 75 _ _ _ _ _; (refine call_pure (f := 75) Try.call75 (placeV n (inA n t) (fnA n t cnt) cnt) (fun ρ w' hw => at_all w' n sv (holds_of_abs hw fun R h => shapes_okI hsv (by omega) h.2) i u t cnt hu ht ha0 hucnt) ?_)) | (show idxRowK _ _ _ _ _ _; (first | refine idxRow_of n.a.toNat (by omega) (by omega) (by rw [spRows_length, gridS_length (by omega)]; exact Nat.le_refl _) ?_ | refine idxRow_of n.b.toNat (by omega) (by omega) (by rw [spRows_length, gridS_length (by omega)]; exact Nat.le_refl _) ?_)) | (show rowAggK _ _ _ _ _; (first | refine rowAgg_of _ _ gA rfl rfl ?_ | refine rowAgg_of _ _ gB rfl rfl ?_)) | (show drawK _ 9 _ _ _ _ _ _; (refine draw_tree tabOk mixed [] _ (.take 0 (.take 1 (.take 2 (.take 3 (.take 4 (.take 5 (.take 6 (.take 7 (.take 8 (.take 9 (.take 10 (.one 11 (.take 12 (.done)))))))))))))) (by kernel_rfl) (by kernel_rfl) (by kernel_rfl) (List.Sublist.refl _) ?_)) | (show callK _ 76 _ _ _ _ _; (refine call_past Try.call76 (fun x : IntsV × Bool => x.1.val) oldA (fun x => x.1.xs = endsA n cnt t.xs (acc.getD n.a.toNat (0, 0)) (acc.getD n.b.toNat (0, 0)) ∧ x.1.sane ∧ (x.2 = true → x.1 = n.data)) (fun ρ w' hw => ends_all w' n _ s t cnt hpl (holds_of_abs hw fun R h => hn.later h.1) (holds_of_abs hw fun R h => (shapes_okI hsv (by omega) h.2).each t htm) (acc.getD n.a.toNat (0, 0)) (acc.getD n.b.toNat (0, 0)) hA2 hB2) (fun x hx => ?_))) | (show Wp _ _ _ _ _ _ _; (refine Wp.go tabOk rfl ?_)) | (show @cmpK _ _ _; (first | refine cmp_yes (by omega) ?_ | refine cmp_no (by omega) ?_ | (refine cmp_both ?_ ?_ <;> intro _))) | (show wrapK _ _ _; (refine wrap_i64 (by omega) (by omega) ?_)) | (show leK _ _ _; (refine le_of (by first | exact Nat.le_refl _ | omega) ?_)) | (show roomK _ _ _; (refine room_of (by first | omega | (dsimp only; omega)) ?_)) | (show ltK _ _ _; (refine lt_of (by omega) ?_)) | (show _ ∧ _; (refine ⟨?_, ?_⟩)) | (show keepK _ _ _ _ _; (refine keep_of (by first | exact List.Sublist.refl _ | exact List.Sublist.cons _ (List.Sublist.refl _) | exact List.Sublist.cons _ (List.Sublist.cons _ (List.Sublist.refl _)) | exact List.Sublist.cons _ (List.Sublist.cons _ (List.Sublist.cons _ (List.Sublist.refl _)))) (by first | exact (fun _ _ h => h) | exact (fun _ _ h => h.1) | exact (fun _ _ h => h.1.1)) ?_)) | (show ownK _ _ _ _ _; (refine own_keep ?_))))
    all_goals
      obtain ⟨hx1, hx2, hx3⟩ := hx
      rw [← hx1] at hEL
      by_cases hr : foldI min x.1.xs < -1048576 ∨ 1048576 < foldI max x.1.xs
      · have hq2 : spansQ (check g).2 (n :: g.l.drop (i + 1)) acc = (5, []) := by simp only [spansQ]; rw [hEq, ← hx1, if_pos hr]
        rw [hq2] at hsp
        rw [← hsp]
        (repeat' ((conv => whnf) <;> first | (show callK _ 77 _ _ _ _ _; (refine call_pure (f := 77) Try.call77 (.int .i64 (foldI min x.1.xs)) (fun ρ w' hw => min_any w' x.1 (holds_of_abs hw fun R h => x_ok hn.data hx2 hx3 h.1.1 h.2) hEL) ?_)) | (show callK _ 78 _ _ _ _ _; (refine call_pure (f := 78) Try.call78 (.int .i64 (foldI max x.1.xs)) (fun ρ w' hw => max_any w' x.1 (holds_of_abs hw fun R h => x_ok hn.data hx2 hx3 h.1.1 h.2) hEL) ?_)) | (show idxRowK _ _ _ _ _ _; (refine idxRow_of i rfl hlt (by rw [spRows_length, gridS_length (by first | omega | (rw [List.length_append, List.length_singleton]; omega))]; exact Nat.le_refl _) ?_)) | (show ltK _ _ _; (refine lt_of (by rw [spRows_length, gridS_length (by rw [List.length_append, List.length_singleton]; omega)]; exact hlt) ?_)) | (show rowStoreK _ _ _ _ _; (refine gridS_store hal hlt ?_)) | (show rowK _ _ _ _; (refine row_of _ _ (gridS_at hal hlt) rfl ?_)) | (show drawK _ 9 _ _ _ _ _ _; (refine draw_quiet tabOk mixed (by kernel_rfl) ?_)) | (show Wp _ _ _ _ _ _ _; (refine Wp.go tabOk rfl ?_)) | (show @cmpK _ _ _; (first | refine cmp_yes (by omega) ?_ | refine cmp_no (by omega) ?_ | (refine cmp_both ?_ ?_ <;> intro _))) | (show wrapK _ _ _; (refine wrap_i64 (by omega) (by omega) ?_)) | (show leK _ _ _; (refine le_of (by first | exact Nat.le_refl _ | omega) ?_)) | (show roomK _ _ _; (refine room_of (by first | omega | (dsimp only; omega)) ?_)) | (show ltK _ _ _; (refine lt_of (by omega) ?_)) | (show _ ∧ _; (refine ⟨?_, ?_⟩)) | (show keepK _ _ _ _ _; (refine keep_of (by first | exact List.Sublist.refl _ | exact List.Sublist.cons _ (List.Sublist.refl _) | exact List.Sublist.cons _ (List.Sublist.cons _ (List.Sublist.refl _)) | exact List.Sublist.cons _ (List.Sublist.cons _ (List.Sublist.cons _ (List.Sublist.refl _)))) (by first | exact (fun _ _ h => h) | exact (fun _ _ h => h.1) | exact (fun _ _ h => h.1.1)) ?_)) | (show ownK _ _ _ _ _; (refine own_keep ?_))))
        all_goals (conv => whnf)
        all_goals first | omega | exact spans_bad (fun _ _ h => h.1.1) rfl (by decide) (fun _ => rfl)
      · have hq2 : spansQ (check g).2 (n :: g.l.drop (i + 1)) acc = spansQ (check g).2 (g.l.drop (i + 1)) (acc ++ [(foldI min x.1.xs, foldI max x.1.xs)]) := by
          conv => lhs; unfold spansQ
          rw [hEq, ← hx1, if_neg hr]
        rw [hq2] at hsp
        have hle := foldI_le hEL
        (repeat' ((conv => whnf) <;> first | (show callK _ 77 _ _ _ _ _; (refine call_pure (f := 77) Try.call77 (.int .i64 (foldI min x.1.xs)) (fun ρ w' hw => min_any w' x.1 (holds_of_abs hw fun R h => x_ok hn.data hx2 hx3 h.1.1 h.2) hEL) ?_)) | (show callK _ 78 _ _ _ _ _; (refine call_pure (f := 78) Try.call78 (.int .i64 (foldI max x.1.xs)) (fun ρ w' hw => max_any w' x.1 (holds_of_abs hw fun R h => x_ok hn.data hx2 hx3 h.1.1 h.2) hEL) ?_)) | (show idxRowK _ _ _ _ _ _; (refine idxRow_of i rfl hlt (by rw [spRows_length, gridS_length (by first | omega | (rw [List.length_append, List.length_singleton]; omega))]; exact Nat.le_refl _) ?_)) | (show ltK _ _ _; (refine lt_of (by rw [spRows_length, gridS_length (by rw [List.length_append, List.length_singleton]; omega)]; exact hlt) ?_)) | (show rowStoreK _ _ _ _ _; (refine gridS_store hal hlt ?_)) | (show rowK _ _ _ _; (refine row_of _ _ (gridS_at hal hlt) rfl ?_)) | (show drawK _ 9 _ _ _ _ _ _; (refine draw_quiet tabOk mixed (by kernel_rfl) ?_)) | (show Wp _ _ _ _ _ _ _; (refine Wp.go tabOk rfl ?_)) | (show @cmpK _ _ _; (first | refine cmp_yes (by omega) ?_ | refine cmp_no (by omega) ?_ | (refine cmp_both ?_ ?_ <;> intro _))) | (show wrapK _ _ _; (refine wrap_i64 (by omega) (by omega) ?_)) | (show leK _ _ _; (refine le_of (by first | exact Nat.le_refl _ | omega) ?_)) | (show roomK _ _ _; (refine room_of (by first | omega | (dsimp only; omega)) ?_)) | (show ltK _ _ _; (refine lt_of (by omega) ?_)) | (show _ ∧ _; (refine ⟨?_, ?_⟩)) | (show keepK _ _ _ _ _; (refine keep_of (by first | exact List.Sublist.refl _ | exact List.Sublist.cons _ (List.Sublist.refl _) | exact List.Sublist.cons _ (List.Sublist.cons _ (List.Sublist.refl _)) | exact List.Sublist.cons _ (List.Sublist.cons _ (List.Sublist.cons _ (List.Sublist.refl _)))) (by first | exact (fun _ _ h => h) | exact (fun _ _ h => h.1) | exact (fun _ _ h => h.1.1)) ?_)) | (show ownK _ _ _ _ _; (refine own_keep ?_))))
        all_goals (conv => whnf)
        all_goals exact ⟨(i + 1, acc ++ [(foldI min x.1.xs, foldI max x.1.xs)]), [], ⟨hlt, by rw [List.length_append, hal]; rfl, hsp, fun s hs => by
          rcases List.mem_append.1 hs with h | h
          · exact hab s h
          · simp at h; subst h; unfold bd20; omega⟩, by simp only; omega, rfl, ⟨rfl, rfl, rfl, rfl, rfl, trivial⟩, ⟨(by repeat (first | exact List.mem_cons_self | apply List.mem_cons_of_mem)), trivial⟩, fun _ _ h => h.1⟩
  · obtain rfl : i = g.l.length := by omega
    rw [List.drop_length] at hsp
    (repeat' ((conv => whnf) <;> first | (show drawK _ 9 _ _ _ _ _ _; (refine draw_quiet tabOk mixed (by kernel_rfl) ?_)) | (show Wp _ _ _ _ _ _ _; (refine Wp.go tabOk rfl ?_)) | (show @cmpK _ _ _; (first | refine cmp_yes (by omega) ?_ | refine cmp_no (by omega) ?_ | (refine cmp_both ?_ ?_ <;> intro _))) | (show wrapK _ _ _; (refine wrap_i64 (by omega) (by omega) ?_)) | (show leK _ _ _; (refine le_of (by first | exact Nat.le_refl _ | omega) ?_)) | (show roomK _ _ _; (refine room_of (by first | omega | (dsimp only; omega)) ?_)) | (show ltK _ _ _; (refine lt_of (by omega) ?_)) | (show _ ∧ _; (refine ⟨?_, ?_⟩)) | (show keepK _ _ _ _ _; (refine keep_of (by first | exact List.Sublist.refl _ | exact List.Sublist.cons _ (List.Sublist.refl _) | exact List.Sublist.cons _ (List.Sublist.cons _ (List.Sublist.refl _)) | exact List.Sublist.cons _ (List.Sublist.cons _ (List.Sublist.cons _ (List.Sublist.refl _)))) (by first | exact (fun _ _ h => h) | exact (fun _ _ h => h.1) | exact (fun _ _ h => h.1.1)) ?_)) | (show ownK _ _ _ _ _; (refine own_keep ?_))))
    conv => whnf
    have hgr : gridS g.l.length acc = acc := by unfold gridS; rw [hal, Nat.sub_self]; simp
    exact spans_good (l := gridS g.l.length acc) (fun _ _ h => h.1) rfl (by repeat (first | exact List.mem_cons_self | apply List.mem_cons_of_mem)) (by rw [hgr, hal]) (by rw [hgr, ← hsp]; rfl)
end Go.Proofs.Ytajbngkcgbehlaa
/- JS -/
namespace Go.Proofs.Ytajbngkcgbehlaa
open Go.SX Go.RowKit
theorem span_all (w : World) (n : NodeV) (sh : List (List Int)) (s : List Int) (sv : ShapesV) (hs : sv.ok w) (t : IntsV) (cnt : Nat) (h : PlaceIn n sh s t.xs cnt) (hno : n.ok w) (ht : sv.l[n.a.toNat]? = some t) (ha0 : 0 ≤ n.a) (hb0 : 0 ≤ n.b) (b2 : Option Addr) (c2 : Nat) (acc : List Sp) (hacc : RowsI w b2 2 (spRows acc)) (hA : n.kind ≠ 1 → n.kind ≠ 2 → n.a.toNat < acc.length) (hB : n.kind = 6 → n.b.toNat < acc.length) (hbd : ∀ s ∈ acc, bd20 s.1 ∧ bd20 s.2 ∧ s.1 ≤ s.2) : Calls Try.prog 79 #[n.valA, sv.val, .slice b2 acc.length c2] w fun e w' => e = .returned (spanV (spanE (endsA n cnt t.xs (acc.getD n.a.toNat (0, 0)) (acc.getD n.b.toNat (0, 0))))) ∧ Ext w w' := by
  obtain ⟨nd, nb, nlo, nhi, nle⟩ := near_in h.node.near
  obtain ⟨_, _, h7, h8, h2⟩ := ahead_of h.node.form
  have hfo := formed_of h.node.form
  have hkind := hfo.kind
  by_cases hl : isLin n
  · have e3 : endsA n cnt t.xs (acc.getD n.a.toNat (0, 0)) (acc.getD n.b.toNat (0, 0)) = linEnds n cnt (termsG n t.xs) (acc.getD n.a.toNat (0, 0)) := if_pos hl
    rw [e3]
    have hk : n.kind ≠ 1 ∧ n.kind ≠ 2 := by unfold isLin at hl; omega
    have hlt := hA hk.1 hk.2
    have hm := hbd _ (sp_mem hlt)
    exact span_lin w n sh s sv hs t cnt h hl hno ht ha0 b2 c2 acc hacc hlt ⟨hm.1, hm.2.1⟩
  · have e3 : endsA n cnt t.xs (acc.getD n.a.toNat (0, 0)) (acc.getD n.b.toNat (0, 0)) = endsL n (acc.getD n.a.toNat (0, 0)) (acc.getD n.b.toNat (0, 0)) := if_neg hl
    rw [e3]
    unfold isLin at hl
    by_cases hk8 : n.kind = 8
    · have hlt := hA (by omega) (by omega)
      have hm := hbd _ (sp_mem hlt)
      exact span_pow w n sv b2 c2 acc _ hk8 hno nd (h8 hk8) ha0 hacc hlt ⟨hm.1, hm.2.1⟩
    · refine span_plain w n sv b2 c2 acc (by omega) hno nd nle (fun hk => ?_) h7 ha0 hb0 hacc hA hB hbd
      have := h2 hk
      have := hfo.own (.inr (.inl hk))
      omega
theorem spRows_snoc (l : List Sp) (s : Sp) {i m : Nat} {T : TypeId} {H : Heap} (hm : m = l.length) : (i, Ent.rows (spRows (l ++ [s])) 2 T) ∈ (i, Ent.rows (List.take m (spRows l) ++ [[.int .i64 s.1, .int .i64 s.2]]) 2 T) :: H := by
  subst hm
  rw [show spRows (l ++ [s]) = List.take l.length (spRows l) ++ [[.int .i64 s.1, .int .i64 s.2]] by rw [List.take_of_length_le (by rw [spRows_length]; exact Nat.le_refl _)]; simp [spRows]]
  exact List.mem_cons_self
set_option maxRecDepth 20000 in
set_option maxHeartbeats 4000000 in
theorem refSpans_any (w : World) (g : GraphV) (hg : g.ok w) : Calls Try.prog 35 #[g.val] w (SpansPost w (spansH g)) := by
  refine calls_of tab tabOk Try.func35 rfl rfl rfl [] (fun _ => ⟨none, 0⟩) [.agg [.c (.slice g.base g.l.length g.cap), .c (.int .i64 g.out)]] [] (baseA w) 0 rfl rfl (by show 1 ≤ _; decide) (abs_base w) ?_
  (repeat' ((conv => whnf) <;> first | (show Wp _ _ _ _ _ _ _; (refine Wp.go tabOk rfl ?_)) | (show @cmpK _ _ _; (first | refine cmp_yes (by omega) ?_ | refine cmp_no (by omega) ?_ | (refine cmp_both ?_ ?_ <;> intro _))) | (show wrapK _ _ _; (refine wrap_i64 (by omega) (by omega) ?_)) | (show leK _ _ _; (refine le_of (by first | exact Nat.le_refl _ | omega) ?_)) | (show roomK _ _ _; (refine room_of (by first | omega | (dsimp only; omega)) ?_)) | (show ltK _ _ _; (refine lt_of (by omega) ?_)) | (show _ ∧ _; (refine ⟨?_, ?_⟩)) | (show keepK _ _ _ _ _; (refine keep_of (by first | exact List.Sublist.refl _ | exact List.Sublist.cons _ (List.Sublist.refl _) | exact List.Sublist.cons _ (List.Sublist.cons _ (List.Sublist.refl _)) | exact List.Sublist.cons _ (List.Sublist.cons _ (List.Sublist.cons _ (List.Sublist.refl _)))) (by first | exact (fun _ _ h => h) | exact (fun _ _ h => h.1) | exact (fun _ _ h => h.1.1)) ?_)) | (show ownK _ _ _ _ _; (refine own_keep ?_))))
  refine call_check (f := 18) (check g) Try.call18 (fun ρ w' hw => refCheck_any w' g (holds_of_abs hw fun R h => hg.later h)) (fun hne => ?_) (fun he sv hm hsv => ?_)
  · have hq : spansH g = ((check g).1, []) := if_pos hne
    rw [hq]
    (repeat' ((conv => whnf) <;> first | (show @cmpK _ _ _; (refine cmp_yes hne ?_)) | (show Wp _ _ _ _ _ _ _; (refine Wp.go tabOk rfl ?_)) | (show @cmpK _ _ _; (first | refine cmp_yes (by omega) ?_ | refine cmp_no (by omega) ?_ | (refine cmp_both ?_ ?_ <;> intro _))) | (show wrapK _ _ _; (refine wrap_i64 (by omega) (by omega) ?_)) | (show leK _ _ _; (refine le_of (by first | exact Nat.le_refl _ | omega) ?_)) | (show roomK _ _ _; (refine room_of (by first | omega | (dsimp only; omega)) ?_)) | (show ltK _ _ _; (refine lt_of (by omega) ?_)) | (show _ ∧ _; (refine ⟨?_, ?_⟩)) | (show keepK _ _ _ _ _; (refine keep_of (by first | exact List.Sublist.refl _ | exact List.Sublist.cons _ (List.Sublist.refl _) | exact List.Sublist.cons _ (List.Sublist.cons _ (List.Sublist.refl _)) | exact List.Sublist.cons _ (List.Sublist.cons _ (List.Sublist.cons _ (List.Sublist.refl _)))) (by first | exact (fun _ _ h => h) | exact (fun _ _ h => h.1) | exact (fun _ _ h => h.1.1)) ?_)) | (show ownK _ _ _ _ _; (refine own_keep ?_))))
    conv => whnf
    exact spans_bad (fun _ _ h => h) rfl hne (fun _ => rfl)
  have hq : spansH g = spansQ (check g).2 g.l [] := if_neg (fun h => h he)
  rw [hq]
  obtain ⟨hl1, hl24, hout, hcl, hin⟩ := check_in he
  have hsl : sv.l.length = g.l.length := by rw [← hcl, ← hm]; simp
  (repeat' ((conv => whnf) <;> first | (show Wp _ _ _ _ _ _ _; (refine Wp.go tabOk rfl ?_)) | (show @cmpK _ _ _; (first | refine cmp_yes (by omega) ?_ | refine cmp_no (by omega) ?_ | (refine cmp_both ?_ ?_ <;> intro _))) | (show wrapK _ _ _; (refine wrap_i64 (by omega) (by omega) ?_)) | (show leK _ _ _; (refine le_of (by first | exact Nat.le_refl _ | omega) ?_)) | (show roomK _ _ _; (refine room_of (by first | omega | (dsimp only; omega)) ?_)) | (show ltK _ _ _; (refine lt_of (by omega) ?_)) | (show _ ∧ _; (refine ⟨?_, ?_⟩)) | (show keepK _ _ _ _ _; (refine keep_of (by first | exact List.Sublist.refl _ | exact List.Sublist.cons _ (List.Sublist.refl _) | exact List.Sublist.cons _ (List.Sublist.cons _ (List.Sublist.refl _)) | exact List.Sublist.cons _ (List.Sublist.cons _ (List.Sublist.cons _ (List.Sublist.refl _)))) (by first | exact (fun _ _ h => h) | exact (fun _ _ h => h.1) | exact (fun _ _ h => h.1.1)) ?_)) | (show ownK _ _ _ _ _; (refine own_keep ?_))))
  refine Wp.loop (σ := Nat × List Sp) 2 (fun ⟨i, acc⟩ => [(4, .c sv.val), (6, .os 1 i), (19, .c (.slice g.base g.l.length g.cap)), (20, .c (.int .i64 g.l.length)), (21, .c (.int .i64 i))]) (fun ⟨i, acc⟩ => [(1, .rows (spRows acc) 2 67)]) (fun _ => (baseA w).and ((shapesD sv).past w.heap.size))
    (fun ⟨i, acc⟩ => i ≤ g.l.length ∧ acc.length = i ∧ spansQ (check g).2 (g.l.drop i) acc = spansQ (check g).2 g.l [] ∧ (∀ s ∈ acc, bd20 s.1 ∧ bd20 s.2 ∧ s.1 ≤ s.2)) (fun s => g.l.length - s.1) (0, []) [(1, none)] (by decide) (fun s => ⟨rfl, rfl⟩) ⟨Nat.zero_le _, rfl, rfl, fun s hs => by simp at hs⟩ ⟨rfl, ⟨rfl, rfl, rfl, rfl, rfl, trivial⟩, ⟨rfl, trivial⟩, fun _ _ h => h⟩ ?_
  rintro ⟨i, acc⟩ ⟨hi, hal, hsp, hab⟩
  by_cases hlt : i < g.l.length
  · obtain ⟨a, ha⟩ : ∃ a, g.base = some a := base_some (j := i) hg.rows (by rw [nodeRows_length]; omega)
    have hnm := List.getElem_mem hlt
    obtain ⟨s, hs, hni⟩ := hin i g.l[i] (List.getElem?_eq_getElem hlt)
    have hdrop : g.l.drop i = g.l[i] :: g.l.drop (i + 1) := List.drop_eq_getElem_cons hlt
    rw [hdrop] at hsp
    have hrow := nodeRows_get hlt
    have hpi := place_in he (List.getElem?_eq_getElem hlt)
    generalize g.l[i] = n at *
    have hn := hg.each n hnm
    obtain ⟨⟨ha0, hal2, hai⟩, ⟨hb0, hbl2, hbi⟩, cnt, hcnt, hpl⟩ := hpi
    have e1 : (check g).2.getD i [] = s := by rw [List.getD_eq_getElem?_getD, hs]; rfl
    rw [e1] at hcnt hpl
    obtain ⟨t, ht, hts⟩ : ∃ t, sv.l[n.a.toNat]? = some t ∧ t.xs = (check g).2.getD n.a.toNat [] := by
      have hlt2 : n.a.toNat < sv.l.length := by omega
      refine ⟨sv.l[n.a.toNat], List.getElem?_eq_getElem hlt2, ?_⟩
      rw [← hm, List.getD_eq_getElem?_getD, List.getElem?_map, List.getElem?_eq_getElem hlt2]; rfl
    rw [← hts] at hpl
    have hfo := formed_of hni.form
    have hti : ((check g).2.take i).length = i := by rw [List.length_take, hcl]; omega
    have hEq : endsAt (check g).2 n acc = endsA n cnt t.xs (acc.getD n.a.toNat (0, 0)) (acc.getD n.b.toNat (0, 0)) := by
      unfold endsAt
      rw [hal, e1, hcnt, hts]; rfl
    have hEL := endsA_len hpl (acc.getD n.a.toNat (0, 0)) (acc.getD n.b.toNat (0, 0))
    have hspan : ∀ w', sv.ok w' → n.ok w' → ∀ b2 c2, RowsI w' b2 2 (spRows acc) → Calls Try.prog 79 #[n.valA, sv.val, .slice b2 i c2] w' fun e w'' => e = .returned (spanV (spanE (endsA n cnt t.xs (acc.getD n.a.toNat (0, 0)) (acc.getD n.b.toNat (0, 0))))) ∧ Ext w' w'' := fun w' h1 h2 b2 c2 h3 => by
      rw [← hal]
      exact span_all w' n _ s sv h1 t cnt hpl h2 ht ha0 hb0 b2 c2 acc h3 (fun k1 k2 => by have := hfo.a k1 k2; omega) (fun k6 => by have := hfo.b k6; omega) hab
    generalize endsA n cnt t.xs (acc.getD n.a.toNat (0, 0)) (acc.getD n.b.toNat (0, 0)) = E at *
    have z1 : (spanE E).1 = foldI min E := rfl
    have z2 : (spanE E).2 = foldI max E := rfl
    by_cases hr : foldI min E < -1048576 ∨ 1048576 < foldI max E
    · have hq2 : spansQ (check g).2 (n :: g.l.drop (i + 1)) acc = (5, []) := by simp only [spansQ]; rw [hEq, if_pos hr]
      rw [hq2] at hsp
      rw [← hsp]
      (repeat' ((conv => whnf) <;> first | (show idxK _ _ _ _ _; (refine idx_of a i ha rfl hlt ?_)) | (show roAggK _ _ _ _; (refine roAgg_row (fun R w' h => by rw [← ha]; exact rows_base h.1 hg.rows) _ hrow rfl ?_)) | (show callK _ 79 _ _ _ _ _; (refine call_pure (f := 79) Try.call79 (spanV (spanE E)) (fun ρ w' hw => hspan w' (holds_of_abs hw fun R h => shapes_okI hsv (by omega) h.2) (holds_of_abs hw fun R h => hn.later h.1) (ρ 1).base (ρ 1).cap (rows_of_abs hw (by repeat (first | exact List.mem_cons_self | apply List.mem_cons_of_mem)))) ?_)) | (show Wp _ _ _ _ _ _ _; (refine Wp.go tabOk rfl ?_)) | (show @cmpK _ _ _; (first | refine cmp_yes (by omega) ?_ | refine cmp_no (by omega) ?_ | (refine cmp_both ?_ ?_ <;> intro _))) | (show wrapK _ _ _; (refine wrap_i64 (by omega) (by omega) ?_)) | (show leK _ _ _; (refine le_of (by first | exact Nat.le_refl _ | omega) ?_)) | (show roomK _ _ _; (refine room_of (by first | omega | (dsimp only; omega)) ?_)) | (show ltK _ _ _; (refine lt_of (by omega) ?_)) | (show _ ∧ _; (refine ⟨?_, ?_⟩)) | (show keepK _ _ _ _ _; (refine keep_of (by first | exact List.Sublist.refl _ | exact List.Sublist.cons _ (List.Sublist.refl _) | exact List.Sublist.cons _ (List.Sublist.cons _ (List.Sublist.refl _)) | exact List.Sublist.cons _ (List.Sublist.cons _ (List.Sublist.cons _ (List.Sublist.refl _)))) (by first | exact (fun _ _ h => h) | exact (fun _ _ h => h.1) | exact (fun _ _ h => h.1.1)) ?_)) | (show ownK _ _ _ _ _; (refine own_keep ?_))))
      all_goals (conv => whnf)
      all_goals first | (exfalso; omega) | exact spans_bad (fun _ _ h => h.1) rfl (by decide) (fun _ => rfl)
    · have hq2 : spansQ (check g).2 (n :: g.l.drop (i + 1)) acc = spansQ (check g).2 (g.l.drop (i + 1)) (acc ++ [(foldI min E, foldI max E)]) := by
        conv => lhs; unfold spansQ
        rw [hEq, if_neg hr]
      rw [hq2] at hsp
      have hle := foldI_le hEL
      (repeat' ((conv => whnf) <;> first | (show idxK _ _ _ _ _; (refine idx_of a i ha rfl hlt ?_)) | (show roAggK _ _ _ _; (refine roAgg_row (fun R w' h => by rw [← ha]; exact rows_base h.1 hg.rows) _ hrow rfl ?_)) | (show callK _ 79 _ _ _ _ _; (refine call_pure (f := 79) Try.call79 (spanV (spanE E)) (fun ρ w' hw => hspan w' (holds_of_abs hw fun R h => shapes_okI hsv (by omega) h.2) (holds_of_abs hw fun R h => hn.later h.1) (ρ 1).base (ρ 1).cap (rows_of_abs hw (by repeat (first | exact List.mem_cons_self | apply List.mem_cons_of_mem)))) ?_)) | (show leK _ _ _; (refine le_of (by rw [spRows_length, hal]; exact Nat.le_refl _) ?_)) | (show roomK _ _ _; (refine room_of (by show (i + 1) * 16 ≤ 140737488355328; omega) ?_)) | (show Wp _ _ _ _ _ _ _; (refine Wp.go tabOk rfl ?_)) | (show @cmpK _ _ _; (first | refine cmp_yes (by omega) ?_ | refine cmp_no (by omega) ?_ | (refine cmp_both ?_ ?_ <;> intro _))) | (show wrapK _ _ _; (refine wrap_i64 (by omega) (by omega) ?_)) | (show leK _ _ _; (refine le_of (by first | exact Nat.le_refl _ | omega) ?_)) | (show roomK _ _ _; (refine room_of (by first | omega | (dsimp only; omega)) ?_)) | (show ltK _ _ _; (refine lt_of (by omega) ?_)) | (show _ ∧ _; (refine ⟨?_, ?_⟩)) | (show keepK _ _ _ _ _; (refine keep_of (by first | exact List.Sublist.refl _ | exact List.Sublist.cons _ (List.Sublist.refl _) | exact List.Sublist.cons _ (List.Sublist.cons _ (List.Sublist.refl _)) | exact List.Sublist.cons _ (List.Sublist.cons _ (List.Sublist.cons _ (List.Sublist.refl _)))) (by first | exact (fun _ _ h => h) | exact (fun _ _ h => h.1) | exact (fun _ _ h => h.1.1)) ?_)) | (show ownK _ _ _ _ _; (refine own_keep ?_))))
      all_goals (conv => whnf)
      all_goals first | (exfalso; omega) | exact ⟨(i + 1, acc ++ [(foldI min E, foldI max E)]), [(1, some 5)], ⟨hlt, by rw [List.length_append, hal]; rfl, hsp, fun s hs => by
        rcases List.mem_append.1 hs with h | h
        · exact hab s h
        · simp at h; subst h; unfold bd20; omega⟩, by simp only; omega, rfl, ⟨rfl, rfl, rfl, rfl, rfl, trivial⟩, ⟨spRows_snoc acc (foldI min E, foldI max E) hal.symm, trivial⟩, fun _ _ h => h⟩
  · have hiz : i = g.l.length := by omega
    subst hiz
    rw [List.drop_length] at hsp
    (repeat' ((conv => whnf) <;> first | (show Wp _ _ _ _ _ _ _; (refine Wp.go tabOk rfl ?_)) | (show @cmpK _ _ _; (first | refine cmp_yes (by omega) ?_ | refine cmp_no (by omega) ?_ | (refine cmp_both ?_ ?_ <;> intro _))) | (show wrapK _ _ _; (refine wrap_i64 (by omega) (by omega) ?_)) | (show leK _ _ _; (refine le_of (by first | exact Nat.le_refl _ | omega) ?_)) | (show roomK _ _ _; (refine room_of (by first | omega | (dsimp only; omega)) ?_)) | (show ltK _ _ _; (refine lt_of (by omega) ?_)) | (show _ ∧ _; (refine ⟨?_, ?_⟩)) | (show keepK _ _ _ _ _; (refine keep_of (by first | exact List.Sublist.refl _ | exact List.Sublist.cons _ (List.Sublist.refl _) | exact List.Sublist.cons _ (List.Sublist.cons _ (List.Sublist.refl _)) | exact List.Sublist.cons _ (List.Sublist.cons _ (List.Sublist.cons _ (List.Sublist.refl _)))) (by first | exact (fun _ _ h => h) | exact (fun _ _ h => h.1) | exact (fun _ _ h => h.1.1)) ?_)) | (show ownK _ _ _ _ _; (refine own_keep ?_))))
    conv => whnf
    exact spans_good (l := acc) (fun _ _ h => h.1) rfl (by repeat (first | exact List.mem_cons_self | apply List.mem_cons_of_mem)) hal.symm (by rw [← hsp]; rfl)
end Go.Proofs.Ytajbngkcgbehlaa
/- IY -/
namespace Go.Proofs.Ytajbngkcgbehlaa
open Go.SX Go.RowKit
/-! what a graph tells, plain, of all kinds -/
def numsAt (sh : List (List Int)) (n : NodeV) (known : List (List Int)) : List Int := numsA n (entries (sh.getD known.length [])).toNat (sh.getD n.a.toNat []) (known.getD n.a.toNat []) (known.getD n.b.toNat [])
def valsQ (sh : List (List Int)) : List NodeV → List (List Int) → List (List Int) → Int × List (List Int)
  | [], known, inp => if 0 < inp.length then (12, []) else (0, known)
  | n :: r, known, inp =>
    if n.kind ≠ 1 then valsQ sh r (known ++ [numsAt sh n known]) inp
    else match inp with
      | [] => (12, [])
      | x :: xs => if (x.length : Int) ≠ entries (sh.getD known.length []) ∨ foldI min x < n.lo ∨ n.hi < foldI max x then (12, []) else valsQ sh r (known ++ [x]) xs
def valsH (g : GraphV) (inp : List (List Int)) : Int × List (List Int) := valsQ (check g).2 g.l [] inp
def runH (g : GraphV) (inp : List (List Int)) : Int × List Int :=
  if (spansH g).1 ≠ 0 then ((spansH g).1, []) else if (valsH g inp).1 ≠ 0 then ((valsH g inp).1, []) else (0, (valsH g inp).2.getD g.out.toNat [])
def spanAt (sh : List (List Int)) (n : NodeV) (acc : List Sp) : Sp := spanE (endsAt sh n acc)
theorem spansQ_in {sh : List (List Int)} : ∀ {l : List NodeV} {acc S : List Sp}, spansQ sh l acc = (0, S) → ∃ q, S = acc ++ q ∧ q.length = l.length ∧ ∀ i n, l[i]? = some n → ∃ s, q[i]? = some s ∧ s = spanAt sh n (acc ++ q.take i) ∧ -1048576 ≤ s.1 ∧ s.2 ≤ 1048576
  | [], acc, S, h => by
    obtain rfl : acc = S := by simpa [spansQ] using h
    exact ⟨[], by simp, rfl, fun i n hn => by simp at hn⟩
  | m :: r, acc, S, h => by
    by_cases hr : (spanAt sh m acc).1 < -1048576 ∨ 1048576 < (spanAt sh m acc).2
    · have : spansQ sh (m :: r) acc = (5, []) := if_pos hr
      rw [this] at h; simp at h
    · have : spansQ sh (m :: r) acc = spansQ sh r (acc ++ [spanAt sh m acc]) := if_neg hr
      rw [this] at h
      obtain ⟨q, hq, hl, ha⟩ := spansQ_in h
      refine ⟨spanAt sh m acc :: q, by rw [hq, List.append_assoc]; rfl, by simp [hl], fun i n hin => ?_⟩
      cases i with
      | zero =>
        simp only [List.getElem?_cons_zero, Option.some.injEq] at hin
        subst hin
        exact ⟨_, rfl, by simp, by omega, by omega⟩
      | succ i =>
        simp only [List.getElem?_cons_succ] at hin
        obtain ⟨t, h1, h2, h3⟩ := ha i n hin
        refine ⟨t, by simpa using h1, ?_, h3⟩
        rw [List.take_succ_cons, show acc ++ spanAt sh m acc :: q.take i = acc ++ [spanAt sh m acc] ++ q.take i by simp]
        exact h2
theorem spansH_in {g : GraphV} (h : (spansH g).1 = 0) : (check g).1 = 0 ∧ (spansH g).2.length = g.l.length ∧ ∀ i n, g.l[i]? = some n → ∃ s, (spansH g).2[i]? = some s ∧ s = spanAt (check g).2 n ((spansH g).2.take i) ∧ -1048576 ≤ s.1 ∧ s.2 ≤ 1048576 := by
  unfold spansH at h ⊢
  by_cases hc : (check g).1 ≠ 0
  · rw [if_pos hc] at h; exact absurd h hc
  · rw [if_neg hc] at h ⊢
    obtain ⟨q, hq, hl, ha⟩ := spansQ_in (l := g.l) (acc := []) (S := (spansQ (check g).2 g.l []).2) (Prod.ext h rfl)
    rw [List.nil_append] at hq
    rw [hq]
    exact ⟨by omega, hl, fun i n hn => by simpa using ha i n hn⟩
/-- known so far: as many as there should be, within their spans -/
structure KnownH (g : GraphV) (kn : List IntsV) (i : Nat) : Prop where
  len : kn.length = i
  sane : ∀ u ∈ kn, u.sane
  each : ∀ (j : Nat) (u : IntsV) (s : Sp) (q : List Int), kn[j]? = some u → (spansH g).2[j]? = some s → (check g).2[j]? = some q → within s u.xs ∧ (u.xs.length : Int) = entries q
theorem known_argH {g : GraphV} {kn : List IntsV} {i : Nat} (hsp : (spansH g).1 = 0) (hkn : KnownH g kn i) (hi : i ≤ g.l.length) (k : Nat) : within (((spansH g).2.take i).getD k (0, 0)) (kn.getD k nilI).xs ∧ (∀ x ∈ (kn.getD k nilI).xs, bd20 x) ∧ (k < i → ((kn.getD k nilI).xs.length : Int) = entries (((check g).2.take i).getD k [])) := by
  obtain ⟨hck, hsl, hsi⟩ := spansH_in hsp
  obtain ⟨hl1, hl24, hout, hcl, hin⟩ := check_in hck
  have hkl := hkn.len
  rcases Nat.lt_or_ge k i with hk | hk
  · have hkg : k < g.l.length := by omega
    obtain ⟨p, hp, _, hp1, hp2⟩ := hsi k g.l[k] (List.getElem?_eq_getElem hkg)
    obtain ⟨s, hs, _⟩ := hin k g.l[k] (List.getElem?_eq_getElem hkg)
    have hk' : k < kn.length := by omega
    obtain ⟨h1, h2⟩ := hkn.each k kn[k] p s (List.getElem?_eq_getElem hk') hp hs
    have e1 : kn.getD k nilI = kn[k] := by rw [List.getD_eq_getElem?_getD, List.getElem?_eq_getElem hk']; rfl
    have e2 : ((spansH g).2.take i).getD k (0, 0) = p := by rw [List.getD_eq_getElem?_getD, List.getElem?_take, if_pos hk, hp]; rfl
    have e3 : ((check g).2.take i).getD k [] = s := by rw [List.getD_eq_getElem?_getD, List.getElem?_take, if_pos hk, hs]; rfl
    rw [e1, e2, e3]
    exact ⟨h1, fun x hx => by have := h1 x hx; unfold bd20; omega, fun _ => h2⟩
  · have e1 : kn.getD k nilI = nilI := by rw [List.getD_eq_getElem?_getD, List.getElem?_eq_none (by omega)]; rfl
    rw [e1]
    exact ⟨fun x hx => by simp [nilI] at hx, fun x hx => by simp [nilI] at hx, fun h => by omega⟩
theorem num_inH {g : GraphV} {kn : List IntsV} {i : Nat} {n : NodeV} (hsp : (spansH g).1 = 0) (hkn : KnownH g kn i) (hi : i ≤ g.l.length) (hf : Formed n i) : NumIn n ((check g).2.take i) (kn.getD n.a.toNat nilI).xs (kn.getD n.b.toNat nilI).xs :=
  ⟨fun k1 k2 => (known_argH hsp hkn hi n.a.toNat).2.2 (by have := hf.a k1 k2; omega), fun k6 => (known_argH hsp hkn hi n.b.toNat).2.2 (by have := hf.b k6; omega)⟩
theorem known_snocH {g : GraphV} {kn : List IntsV} {i : Nat} {x : IntsV} {s : List Int} {p : Sp} (hkn : KnownH g kn i) (hx : x.sane) (hp : (spansH g).2[i]? = some p) (hs : (check g).2[i]? = some s) (hw : within p x.xs) (hl : (x.xs.length : Int) = entries s) : KnownH g (kn ++ [x]) (i + 1) := by
  have hkl := hkn.len
  refine ⟨by rw [List.length_append, hkl]; rfl, fun u hu => ?_, fun j u p' q hu hp' hq => ?_⟩
  · rcases List.mem_append.1 hu with h | h
    · exact hkn.sane u h
    · simp at h; subst h; exact hx
  · rcases Nat.lt_or_ge j i with hj | hj
    · rw [List.getElem?_append_left (by omega)] at hu
      exact hkn.each j u p' q hu hp' hq
    · rw [List.getElem?_append_right (by omega)] at hu
      have h0 : j - kn.length = 0 := by
        rcases Nat.eq_zero_or_pos (j - kn.length) with h | h
        · exact h
        · rw [List.getElem?_eq_none (by simp; omega)] at hu; cases hu
      rw [h0] at hu
      simp only [List.getElem?_cons_zero, Option.some.injEq] at hu
      subst hu
      obtain rfl : j = i := by omega
      rw [hp] at hp'
      rw [hs] at hq
      simp only [Option.some.injEq] at hp' hq
      subst hp' hq
      exact ⟨hw, hl⟩
set_option maxRecDepth 20000 in
set_option maxHeartbeats 2000000 in
theorem run_all (w : World) (g : GraphV) (hg : g.ok w) (iv : ShapesV) (hiv : InV.ok w iv) : Calls Try.prog 37 #[g.val, iv.val] w (RunPost w (runH g (iv.l.map IntsV.xs))) := by
  have hivf := hiv.few
  refine calls_of tab tabOk Try.func37 rfl rfl rfl [] (fun _ => ⟨none, 0⟩) [.agg [.c (.slice g.base g.l.length g.cap), .c (.int .i64 g.out)], .c iv.val] [] (baseA w) 0 rfl rfl (by show 2 ≤ _; decide) (abs_base w) ?_
  (repeat' ((conv => whnf) <;> first | (show drawK _ 11 _ _ _ _ _ _; (refine draw_tree tabOk mixed [15] _ (.take 0 (.take 1 (.take 2 (.take 3 (.take 4 (.take 5 (.take 6 (.take 7 (.take 8 (.take 9 (.take 10 (.take 11 (.take 12 (.one 13 (.take 14 (.one 15 (.done))))))))))))))))) (by kernel_rfl) (by kernel_rfl) (by kernel_rfl) (List.Sublist.refl _) ?_)) | (show drawK _ 12 _ _ _ _ _ _; (refine draw_quiet tabOk mixed (by kernel_rfl) ?_)) | (show drawK _ 14 _ _ _ _ _ _; (refine draw_tree tabOk mixed [9] _ (.take 0 (.take 1 (.take 2 (.take 3 (.take 4 (.alt 5 (.take 8 (.alt 6 (.alt 7 (.one 9 (.one 10 (.done))) (.one 9 (.one 7 (.one 10 (.done))))) (.one 9 (.one 6 (.one 7 (.one 10 (.done))))))) (.one 6 (.alt 5 (.take 8 (.alt 7 (.one 9 (.one 10 (.done))) (.one 9 (.one 7 (.one 10 (.done)))))) (.one 7 (.one 5 (.take 8 (.one 9 (.one 10 (.done)))))))))))))) (by kernel_rfl) (by kernel_rfl) (by kernel_rfl) (List.Sublist.refl _) ?_)) | (show Wp _ _ _ _ _ _ _; (refine Wp.go tabOk rfl ?_)) | (show @cmpK _ _ _; (first | refine cmp_yes (by omega) ?_ | refine cmp_no (by omega) ?_ | (refine cmp_both ?_ ?_ <;> intro _))) | (show wrapK _ _ _; (refine wrap_i64 (by omega) (by omega) ?_)) | (show leK _ _ _; (refine le_of (by first | exact Nat.le_refl _ | omega) ?_)) | (show roomK _ _ _; (refine room_of (by first | omega | (dsimp only; omega)) ?_)) | (show ltK _ _ _; (refine lt_of (by omega) ?_)) | (show _ ∧ _; (refine ⟨?_, ?_⟩)) | (show keepK _ _ _ _ _; (refine keep_of (by first | exact List.Sublist.refl _ | exact List.Sublist.cons _ (List.Sublist.refl _) | exact List.Sublist.cons _ (List.Sublist.cons _ (List.Sublist.refl _)) | exact List.Sublist.cons _ (List.Sublist.cons _ (List.Sublist.cons _ (List.Sublist.refl _)))) (by first | exact (fun _ _ h => h) | exact (fun _ _ h => h.1) | exact (fun _ _ h => h.1.1)) ?_)) | (show ownK _ _ _ _ _; (refine own_keep ?_))))
  refine call_spans (f := 34) (spansH g) Try.call34 (fun ρ w' hw => spans_all w' g (holds_of_abs hw fun R h => hg.later h)) (fun hne => ?_) (fun hsp base cap => ?_)
  · have hq : runH g (iv.l.map IntsV.xs) = ((spansH g).1, []) := if_pos hne
    rw [hq]
    (repeat' ((conv => whnf) <;> first | (show @cmpK _ _ _; (refine cmp_yes hne ?_)) | (show drawK _ 11 _ _ _ _ _ _; (refine draw_tree tabOk mixed [15] _ (.take 0 (.take 1 (.take 2 (.take 3 (.take 4 (.take 5 (.take 6 (.take 7 (.take 8 (.take 9 (.take 10 (.take 11 (.take 12 (.one 13 (.take 14 (.one 15 (.done))))))))))))))))) (by kernel_rfl) (by kernel_rfl) (by kernel_rfl) (List.Sublist.refl _) ?_)) | (show drawK _ 12 _ _ _ _ _ _; (refine draw_quiet tabOk mixed (by kernel_rfl) ?_)) | (show drawK _ 14 _ _ _ _ _ _; (refine draw_tree tabOk mixed [9] _ (.take 0 (.take 1 (.take 2 (.take 3 (.take 4 (.alt 5 (.take 8 (.alt 6 (.alt 7 (.one 9 (.one 10 (.done))) (.one 9 (.one 7 (.one 10 (.done))))) (.one 9 (.one 6 (.one 7 (.one 10 (.done))))))) (.one 6 (.alt 5 (.take 8 (.alt 7 (.one 9 (.one 10 (.done))) (.one 9 (.one 7 (.one 10 (.done)))))) (.one 7 (.one 5 (.take 8 (.one 9 (.one 10 (.done)))))))))))))) (by kernel_rfl) (by kernel_rfl) (by kernel_rfl) (List.Sublist.refl _) ?_)) | (show Wp _ _ _ _ _ _ _; (refine Wp.go tabOk rfl ?_)) | (show @cmpK _ _ _; (first | refine cmp_yes (by omega) ?_ | refine cmp_no (by omega) ?_ | (refine cmp_both ?_ ?_ <;> intro _))) | (show wrapK _ _ _; (refine wrap_i64 (by omega) (by omega) ?_)) | (show leK _ _ _; (refine le_of (by first | exact Nat.le_refl _ | omega) ?_)) | (show roomK _ _ _; (refine room_of (by first | omega | (dsimp only; omega)) ?_)) | (show ltK _ _ _; (refine lt_of (by omega) ?_)) | (show _ ∧ _; (refine ⟨?_, ?_⟩)) | (show keepK _ _ _ _ _; (refine keep_of (by first | exact List.Sublist.refl _ | exact List.Sublist.cons _ (List.Sublist.refl _) | exact List.Sublist.cons _ (List.Sublist.cons _ (List.Sublist.refl _)) | exact List.Sublist.cons _ (List.Sublist.cons _ (List.Sublist.cons _ (List.Sublist.refl _)))) (by first | exact (fun _ _ h => h) | exact (fun _ _ h => h.1) | exact (fun _ _ h => h.1.1)) ?_)) | (show ownK _ _ _ _ _; (refine own_keep ?_))))
    conv => whnf
    exact run_bad (fun _ _ h => h) rfl hne (fun _ => rfl)
  have hq : runH g (iv.l.map IntsV.xs) = if (valsH g (iv.l.map IntsV.xs)).1 ≠ 0 then ((valsH g (iv.l.map IntsV.xs)).1, []) else (0, (valsH g (iv.l.map IntsV.xs)).2.getD g.out.toNat []) := if_neg (fun h => h hsp)
  rw [hq]
  obtain ⟨hck, hsl, hsi⟩ := spansH_in hsp
  obtain ⟨hl1, hl24, hout, hcl, hin⟩ := check_in hck
  (repeat' ((conv => whnf) <;> first | (show drawK _ 11 _ _ _ _ _ _; (refine draw_tree tabOk mixed [15] _ (.take 0 (.take 1 (.take 2 (.take 3 (.take 4 (.take 5 (.take 6 (.take 7 (.take 8 (.take 9 (.take 10 (.take 11 (.take 12 (.one 13 (.take 14 (.one 15 (.done))))))))))))))))) (by kernel_rfl) (by kernel_rfl) (by kernel_rfl) (List.Sublist.refl _) ?_)) | (show drawK _ 12 _ _ _ _ _ _; (refine draw_quiet tabOk mixed (by kernel_rfl) ?_)) | (show drawK _ 14 _ _ _ _ _ _; (refine draw_tree tabOk mixed [9] _ (.take 0 (.take 1 (.take 2 (.take 3 (.take 4 (.alt 5 (.take 8 (.alt 6 (.alt 7 (.one 9 (.one 10 (.done))) (.one 9 (.one 7 (.one 10 (.done))))) (.one 9 (.one 6 (.one 7 (.one 10 (.done))))))) (.one 6 (.alt 5 (.take 8 (.alt 7 (.one 9 (.one 10 (.done))) (.one 9 (.one 7 (.one 10 (.done)))))) (.one 7 (.one 5 (.take 8 (.one 9 (.one 10 (.done)))))))))))))) (by kernel_rfl) (by kernel_rfl) (by kernel_rfl) (List.Sublist.refl _) ?_)) | (show Wp _ _ _ _ _ _ _; (refine Wp.go tabOk rfl ?_)) | (show @cmpK _ _ _; (first | refine cmp_yes (by omega) ?_ | refine cmp_no (by omega) ?_ | (refine cmp_both ?_ ?_ <;> intro _))) | (show wrapK _ _ _; (refine wrap_i64 (by omega) (by omega) ?_)) | (show leK _ _ _; (refine le_of (by first | exact Nat.le_refl _ | omega) ?_)) | (show roomK _ _ _; (refine room_of (by first | omega | (dsimp only; omega)) ?_)) | (show ltK _ _ _; (refine lt_of (by omega) ?_)) | (show _ ∧ _; (refine ⟨?_, ?_⟩)) | (show keepK _ _ _ _ _; (refine keep_of (by first | exact List.Sublist.refl _ | exact List.Sublist.cons _ (List.Sublist.refl _) | exact List.Sublist.cons _ (List.Sublist.cons _ (List.Sublist.refl _)) | exact List.Sublist.cons _ (List.Sublist.cons _ (List.Sublist.cons _ (List.Sublist.refl _)))) (by first | exact (fun _ _ h => h) | exact (fun _ _ h => h.1) | exact (fun _ _ h => h.1.1)) ?_)) | (show ownK _ _ _ _ _; (refine own_keep ?_))))
  refine call_check (f := 17) (check g) Try.call17 (fun ρ w' hw => check_any w' g (holds_of_abs hw fun R h => hg.later h.1)) (fun hne => absurd hck hne) (fun _ sv hm hsv => ?_)
  have hsvl : sv.l.length = g.l.length := by rw [← hcl, ← hm]; simp
  (repeat' ((conv => whnf) <;> first | (show makeK _ _ _ _; (refine make_of g.l.length rfl rfl (by show 24 * _ ≤ _; omega) (by omega) ?_)) | (show drawK _ 11 _ _ _ _ _ _; (refine draw_tree tabOk mixed [15] _ (.take 0 (.take 1 (.take 2 (.take 3 (.take 4 (.take 5 (.take 6 (.take 7 (.take 8 (.take 9 (.take 10 (.take 11 (.take 12 (.one 13 (.take 14 (.one 15 (.done))))))))))))))))) (by kernel_rfl) (by kernel_rfl) (by kernel_rfl) (List.Sublist.refl _) ?_)) | (show drawK _ 12 _ _ _ _ _ _; (refine draw_quiet tabOk mixed (by kernel_rfl) ?_)) | (show drawK _ 14 _ _ _ _ _ _; (refine draw_tree tabOk mixed [9] _ (.take 0 (.take 1 (.take 2 (.take 3 (.take 4 (.alt 5 (.take 8 (.alt 6 (.alt 7 (.one 9 (.one 10 (.done))) (.one 9 (.one 7 (.one 10 (.done))))) (.one 9 (.one 6 (.one 7 (.one 10 (.done))))))) (.one 6 (.alt 5 (.take 8 (.alt 7 (.one 9 (.one 10 (.done))) (.one 9 (.one 7 (.one 10 (.done)))))) (.one 7 (.one 5 (.take 8 (.one 9 (.one 10 (.done)))))))))))))) (by kernel_rfl) (by kernel_rfl) (by kernel_rfl) (List.Sublist.refl _) ?_)) | (show Wp _ _ _ _ _ _ _; (refine Wp.go tabOk rfl ?_)) | (show @cmpK _ _ _; (first | refine cmp_yes (by omega) ?_ | refine cmp_no (by omega) ?_ | (refine cmp_both ?_ ?_ <;> intro _))) | (show wrapK _ _ _; (refine wrap_i64 (by omega) (by omega) ?_)) | (show leK _ _ _; (refine le_of (by first | exact Nat.le_refl _ | omega) ?_)) | (show roomK _ _ _; (refine room_of (by first | omega | (dsimp only; omega)) ?_)) | (show ltK _ _ _; (refine lt_of (by omega) ?_)) | (show _ ∧ _; (refine ⟨?_, ?_⟩)) | (show keepK _ _ _ _ _; (refine keep_of (by first | exact List.Sublist.refl _ | exact List.Sublist.cons _ (List.Sublist.refl _) | exact List.Sublist.cons _ (List.Sublist.cons _ (List.Sublist.refl _)) | exact List.Sublist.cons _ (List.Sublist.cons _ (List.Sublist.cons _ (List.Sublist.refl _)))) (by first | exact (fun _ _ h => h) | exact (fun _ _ h => h.1) | exact (fun _ _ h => h.1.1)) ?_)) | (show ownK _ _ _ _ _; (refine own_keep ?_))))
  refine Wp.loop (σ := Nat × List IntsV × ShapesV) 2 (fun ⟨i, _, cur⟩ => [(2, .lp 0 0 0 0), (1, .c cur.val), (8, .c sv.val), (10, .os 1 g.l.length), (32, .c (.slice g.base g.l.length g.cap)), (33, .c (.int .i64 g.l.length)), (34, .c (.int .i64 i))]) (fun ⟨_, kn, _⟩ => [(1, .rows (shRows (gridK g.l.length kn)) 1 32), (0, .box [.c (.slice g.base g.l.length g.cap), .c (.int .i64 g.out)] 24)]) (fun ⟨_, kn, _⟩ => ((baseA w).and ((shapesD sv).past w.heap.size)).and (eachA w.heap.size kn))
    (fun ⟨i, kn, cur⟩ => i ≤ g.l.length ∧ KnownH g kn i ∧ InV.ok w cur ∧ valsQ (check g).2 (g.l.drop i) (kn.map IntsV.xs) (cur.l.map IntsV.xs) = valsH g (iv.l.map IntsV.xs)) (fun s => g.l.length - s.1) (0, [], iv) [] (by decide) (fun s => ⟨rfl, rfl⟩) ⟨Nat.zero_le _, ⟨rfl, fun u hu => by simp at hu, fun j u s q hu => by simp at hu⟩, hiv, rfl⟩ ⟨rfl, ⟨rfl, rfl, rfl, rfl, rfl, rfl, rfl, trivial⟩, ⟨?_, (by repeat (first | exact List.mem_cons_self | apply List.mem_cons_of_mem)), trivial⟩, fun R w h => ⟨⟨h.1.1, h.2⟩, eachA_nil _ R w⟩⟩ ?_
  · have : shRows (gridK g.l.length []) = List.replicate g.l.length [Value.slice none 0 0] := by simp [shRows, gridK]; exact .inr rfl
    show (1, Ent.rows (shRows (gridK g.l.length [])) 1 32) ∈ _
    rw [this]
    exact (by repeat (first | exact List.mem_cons_self | apply List.mem_cons_of_mem))
  rintro ⟨i, kn, cur⟩ ⟨hi, hkn, hcur, hv⟩
  have hkl := hkn.len
  have hcf := hcur.few
  by_cases hlt : i < g.l.length
  · obtain ⟨a, ha⟩ : ∃ a, g.base = some a := base_some (j := i) hg.rows (by rw [nodeRows_length]; omega)
    have hnm := List.getElem_mem hlt
    obtain ⟨s, hs, hni⟩ := hin i g.l[i] (List.getElem?_eq_getElem hlt)
    obtain ⟨p, hp, hpe, hp1, hp2⟩ := hsi i g.l[i] (List.getElem?_eq_getElem hlt)
    have hdrop : g.l.drop i = g.l[i] :: g.l.drop (i + 1) := List.drop_eq_getElem_cons hlt
    rw [hdrop] at hv
    have hrow := nodeRows_get hlt
    have hpi := place_in hck (List.getElem?_eq_getElem hlt)
    generalize g.l[i] = n at *
    have hn := hg.each n hnm
    obtain ⟨⟨ha0, hal2, hai⟩, ⟨hb0, hbl2, hbi⟩, cnt, hcnt0, hpl⟩ := hpi
    have e1 : (check g).2.getD i [] = s := by rw [List.getD_eq_getElem?_getD, hs]; rfl
    rw [e1] at hcnt0 hpl
    have hti : ((check g).2.take i).length = i := by rw [List.length_take, hcl]; omega
    have hform := hni.form
    rw [hti] at hform
    have hkml : (kn.map IntsV.xs).length = i := by rw [List.length_map, hkl]
    obtain ⟨t, ht, hts⟩ : ∃ t, sv.l[n.a.toNat]? = some t ∧ t.xs = (check g).2.getD n.a.toNat [] := by
      have hlt2 : n.a.toNat < sv.l.length := by omega
      refine ⟨sv.l[n.a.toNat], List.getElem?_eq_getElem hlt2, ?_⟩
      rw [← hm, List.getD_eq_getElem?_getD, List.getElem?_map, List.getElem?_eq_getElem hlt2]; rfl
    have htm : t ∈ sv.l := List.mem_of_getElem? ht
    rw [← hts] at hpl
    obtain ⟨u, hu, hus⟩ : ∃ u, sv.l[i]? = some u ∧ u.xs = s := by
      have hs' := hs
      rw [← hm, List.getElem?_map] at hs'
      cases hu : sv.l[i]? with
      | none => rw [hu] at hs'; simp at hs'
      | some u => rw [hu] at hs'; exact ⟨u, rfl, by simpa using hs'⟩
    have hcnt : entries u.xs = cnt := by rw [hus]; exact hcnt0
    have hcb := (entries_bd u.xs).2
    have hat : ∀ w', sv.ok w' → Calls Try.prog 75 #[n.valA, sv.val, .int .i64 i] w' (fun e w'' => e = .returned (placeV n (inA n t) (fnA n t cnt) cnt) ∧ Ext w' w'') := fun w' h => at_all w' n sv h i u t cnt hu ht ha0 hcnt
    have hnm : n.kind ≠ 1 → ∀ w', n.ok w' → t.ok w' → ∀ a b : IntsV, a.ok w' → b.ok w' → (∀ x ∈ a.xs, bd20 x) → (∀ x ∈ b.xs, bd20 x) → NumIn n ((check g).2.take i) a.xs b.xs → Calls Try.prog 80 #[placeV n (inA n t) (fnA n t cnt) cnt, a.val, b.val] w' (NewInts w' (numsA n cnt t.xs a.xs b.xs)) := fun hk1 w' h1 h2 a b h3 h4 h5 h6 h7 => nums_all w' n _ s t cnt hpl hk1 h1 h2 a b h3 h4 h5 h6 h7
    obtain ⟨ib, il, ic, hinv⟩ := inA_slice n t
    have hfn := fnA_func n t cnt
    rw [hinv] at hat hnm
    by_cases hk1 : n.kind = 1
    · have hf0 : fnA n t cnt = .nilFunc := if_neg (by unfold isLin; omega)
      rw [hf0] at hat
      obtain ⟨cb, cc, cl⟩ := cur
      cases cl with
      | nil =>
        have hv1 : valsQ (check g).2 (n :: g.l.drop (i + 1)) (kn.map IntsV.xs) [] = (12, []) := by
          conv => lhs; unfold valsQ
          rw [if_neg (fun h => h hk1)]
        have hv2 : valsH g (iv.l.map IntsV.xs) = (12, []) := by rw [← hv]; exact hv1
        (repeat' ((conv => whnf) <;> first | (show @cmpK _ _ _; (refine cmp_yes rfl ?_)) | (show idxK _ _ _ _ _; (refine idx_of a i ha rfl hlt ?_)) | (show roAggK _ _ _ _; (refine roAgg_row (fun R w' h => by rw [← ha]; exact rows_base h.1.1 hg.rows) _ hrow rfl ?_)) | (show callK _ 75 _ _ _ _ _; (refine call_pure (f := 75) Try.call75 _ (fun ρ w' hw => hat w' (holds_of_abs hw fun R h => shapes_okI hsv (by omega) h.1.2)) ?_)) | (show drawK _ 11 _ _ _ _ _ _; (refine draw_tree tabOk mixed [15] _ (.take 0 (.take 1 (.take 2 (.take 3 (.take 4 (.take 5 (.take 6 (.take 7 (.take 8 (.take 9 (.take 10 (.take 11 (.take 12 (.one 13 (.take 14 (.one 15 (.done))))))))))))))))) (by kernel_rfl) (by kernel_rfl) (by kernel_rfl) (List.Sublist.refl _) ?_)) | (show drawK _ 12 _ _ _ _ _ _; (refine draw_quiet tabOk mixed (by kernel_rfl) ?_)) | (show drawK _ 14 _ _ _ _ _ _; (refine draw_tree tabOk mixed [9] _ (.take 0 (.take 1 (.take 2 (.take 3 (.take 4 (.alt 5 (.take 8 (.alt 6 (.alt 7 (.one 9 (.one 10 (.done))) (.one 9 (.one 7 (.one 10 (.done))))) (.one 9 (.one 6 (.one 7 (.one 10 (.done))))))) (.one 6 (.alt 5 (.take 8 (.alt 7 (.one 9 (.one 10 (.done))) (.one 9 (.one 7 (.one 10 (.done)))))) (.one 7 (.one 5 (.take 8 (.one 9 (.one 10 (.done)))))))))))))) (by kernel_rfl) (by kernel_rfl) (by kernel_rfl) (List.Sublist.refl _) ?_)) | (show Wp _ _ _ _ _ _ _; (refine Wp.go tabOk rfl ?_)) | (show @cmpK _ _ _; (first | refine cmp_yes (by omega) ?_ | refine cmp_no (by omega) ?_ | (refine cmp_both ?_ ?_ <;> intro _))) | (show wrapK _ _ _; (refine wrap_i64 (by omega) (by omega) ?_)) | (show leK _ _ _; (refine le_of (by first | exact Nat.le_refl _ | omega) ?_)) | (show roomK _ _ _; (refine room_of (by first | omega | (dsimp only; omega)) ?_)) | (show ltK _ _ _; (refine lt_of (by omega) ?_)) | (show _ ∧ _; (refine ⟨?_, ?_⟩)) | (show keepK _ _ _ _ _; (refine keep_of (by first | exact List.Sublist.refl _ | exact List.Sublist.cons _ (List.Sublist.refl _) | exact List.Sublist.cons _ (List.Sublist.cons _ (List.Sublist.refl _)) | exact List.Sublist.cons _ (List.Sublist.cons _ (List.Sublist.cons _ (List.Sublist.refl _)))) (by first | exact (fun _ _ h => h) | exact (fun _ _ h => h.1) | exact (fun _ _ h => h.1.1)) ?_)) | (show ownK _ _ _ _ _; (refine own_keep ?_))))
        all_goals (conv => whnf)
        all_goals exact run_bad12 (fun _ _ h => h.1.1) rfl hv2 (fun _ => rfl)
      | cons x xs =>
        obtain ⟨ca, hca⟩ : ∃ a, cb = some a := base_some (j := 0) hcur.rows (by show 0 < (shRows (x :: xs)).length; rw [shRows_length]; exact Nat.succ_pos _)
        subst hca
        have hxok : x.ok w := hcur.each x List.mem_cons_self
        have hcs : entries s = cnt := by rw [← hus]; exact hcnt
        have hroom := hcur.room
        have hxl : xs.length + 1 ≤ cc := hroom
        have hne0 : ¬ ((({ base := some ca, cap := cc, l := x :: xs } : ShapesV).l.length : Nat) : Int) = 0 := by show ¬ ((xs.length + 1 : Nat) : Int) = 0; omega
        have hpos : 1 ≤ cnt := by
          have hso := hni.shape
          unfold shapeO at hso
          rw [if_pos (.inl hk1), Option.some.injEq] at hso
          have := (formed_of hform).own (.inl hk1)
          rw [hso] at this
          omega
        by_cases hbad : (x.xs.length : Int) ≠ entries s ∨ foldI min x.xs < n.lo ∨ n.hi < foldI max x.xs
        · have hv1 : valsQ (check g).2 (n :: g.l.drop (i + 1)) (kn.map IntsV.xs) (x.xs :: xs.map IntsV.xs) = (12, []) := by
            conv => lhs; unfold valsQ
            rw [if_neg (fun h => h hk1)]
            simp only
            rw [hkml, e1, if_pos hbad]
          have hv2 : valsH g (iv.l.map IntsV.xs) = (12, []) := by rw [← hv]; exact hv1
          rw [hcs] at hbad
          (repeat' ((conv => whnf) <;> first | (show @cmpK _ _ _; (refine cmp_no hne0 ?_)) | (show idxK _ _ _ _ _; (first | refine idx_of a i ha rfl hlt ?_ | refine idx_of ca 0 rfl rfl (by omega) ?_)) | (show roAggK _ _ _ _; (refine roAgg_row (fun R w' h => by rw [← ha]; exact rows_base h.1.1 hg.rows) _ hrow rfl ?_)) | (show roK _ _ _; (refine ro_row0 (fun R w' h => rows_base h.1.1 hcur.rows) _ _ (j := 0) rfl rfl ?_)) | (show idxRowK _ _ _ _ _ _; (refine idxRow_of i rfl hlt (by rw [shRows_length, gridK_length (by omega)]; exact Nat.le_refl _) ?_)) | (show callK _ 75 _ _ _ _ _; (refine call_pure (f := 75) Try.call75 _ (fun ρ w' hw => hat w' (holds_of_abs hw fun R h => shapes_okI hsv (by omega) h.1.2)) ?_)) | (show callQ _ 77 _ _ _ _ _; (refine callQ_of (f := 77) Try.call77 (.int .i64 (foldI min x.xs)) (fun ρ w' hw => min_any w' x (holds_of_abs hw fun R h => hxok.later h.1.1) (by omega)) ?_)) | (show callQ _ 78 _ _ _ _ _; (refine callQ_of (f := 78) Try.call78 (.int .i64 (foldI max x.xs)) (fun ρ w' hw => max_any w' x (holds_of_abs hw fun R h => hxok.later h.1.1) (by omega)) ?_)) | (show drawK _ 11 _ _ _ _ _ _; (refine draw_tree tabOk mixed [15] _ (.take 0 (.take 1 (.take 2 (.take 3 (.take 4 (.take 5 (.take 6 (.take 7 (.take 8 (.take 9 (.take 10 (.take 11 (.take 12 (.one 13 (.take 14 (.one 15 (.done))))))))))))))))) (by kernel_rfl) (by kernel_rfl) (by kernel_rfl) (List.Sublist.refl _) ?_)) | (show drawK _ 12 _ _ _ _ _ _; (refine draw_quiet tabOk mixed (by kernel_rfl) ?_)) | (show drawK _ 14 _ _ _ _ _ _; (refine draw_tree tabOk mixed [9] _ (.take 0 (.take 1 (.take 2 (.take 3 (.take 4 (.alt 5 (.take 8 (.alt 6 (.alt 7 (.one 9 (.one 10 (.done))) (.one 9 (.one 7 (.one 10 (.done))))) (.one 9 (.one 6 (.one 7 (.one 10 (.done))))))) (.one 6 (.alt 5 (.take 8 (.alt 7 (.one 9 (.one 10 (.done))) (.one 9 (.one 7 (.one 10 (.done)))))) (.one 7 (.one 5 (.take 8 (.one 9 (.one 10 (.done)))))))))))))) (by kernel_rfl) (by kernel_rfl) (by kernel_rfl) (List.Sublist.refl _) ?_)) | (show Wp _ _ _ _ _ _ _; (refine Wp.go tabOk rfl ?_)) | (show @cmpK _ _ _; (first | refine cmp_yes (by omega) ?_ | refine cmp_no (by omega) ?_ | (refine cmp_both ?_ ?_ <;> intro _))) | (show wrapK _ _ _; (refine wrap_i64 (by omega) (by omega) ?_)) | (show leK _ _ _; (refine le_of (by first | exact Nat.le_refl _ | omega) ?_)) | (show roomK _ _ _; (refine room_of (by first | omega | (dsimp only; omega)) ?_)) | (show ltK _ _ _; (refine lt_of (by omega) ?_)) | (show _ ∧ _; (refine ⟨?_, ?_⟩)) | (show keepK _ _ _ _ _; (refine keep_of (by first | exact List.Sublist.refl _ | exact List.Sublist.cons _ (List.Sublist.refl _) | exact List.Sublist.cons _ (List.Sublist.cons _ (List.Sublist.refl _)) | exact List.Sublist.cons _ (List.Sublist.cons _ (List.Sublist.cons _ (List.Sublist.refl _)))) (by first | exact (fun _ _ h => h) | exact (fun _ _ h => h.1) | exact (fun _ _ h => h.1.1)) ?_)) | (show ownK _ _ _ _ _; (refine own_keep ?_))))
          all_goals (conv => whnf)
          all_goals first | (exfalso; omega) | exact run_bad12 (fun _ _ h => h.1.1) rfl hv2 (fun _ => rfl)
        · have hv1 : valsQ (check g).2 (n :: g.l.drop (i + 1)) (kn.map IntsV.xs) (x.xs :: xs.map IntsV.xs) = valsQ (check g).2 (g.l.drop (i + 1)) (kn.map IntsV.xs ++ [x.xs]) (xs.map IntsV.xs) := by
            conv => lhs; unfold valsQ
            rw [if_neg (fun h => h hk1)]
            simp only
            rw [hkml, e1, if_neg hbad]
          have hv2 := hv1.symm.trans hv
          rw [hcs] at hbad
          have hwi : within p x.xs := by
            rw [hpe]
            have hL : endsAt (check g).2 n ((spansH g).2.take i) = [n.lo, n.hi] := by
              unfold endsAt endsA
              rw [if_neg (by unfold isLin; omega)]
              exact if_pos hk1
            unfold spanAt spanE
            rw [hL]
            intro z hz
            have m1 : foldI min [n.lo, n.hi] = min n.lo n.hi := rfl
            have m2 : foldI max [n.lo, n.hi] = max n.lo n.hi := rfl
            have := foldI_min_le hz
            have := foldI_max_ge hz
            simp only [m1, m2]
            omega
          (repeat' ((conv => whnf) <;> first | (show @cmpK _ _ _; (refine cmp_no hne0 ?_)) | (show idxK _ _ _ _ _; (first | refine idx_of a i ha rfl hlt ?_ | refine idx_of ca 0 rfl rfl (by omega) ?_)) | (show roAggK _ _ _ _; (refine roAgg_row (fun R w' h => by rw [← ha]; exact rows_base h.1.1 hg.rows) _ hrow rfl ?_)) | (show roK _ _ _; (refine ro_row0 (fun R w' h => rows_base h.1.1 hcur.rows) _ _ (j := 0) rfl rfl ?_)) | (show idxRowK _ _ _ _ _ _; (refine idxRow_of i rfl hlt (by rw [shRows_length, gridK_length (by omega)]; exact Nat.le_refl _) ?_)) | (show callK _ 75 _ _ _ _ _; (refine call_pure (f := 75) Try.call75 _ (fun ρ w' hw => hat w' (holds_of_abs hw fun R h => shapes_okI hsv (by omega) h.1.2)) ?_)) | (show callQ _ 77 _ _ _ _ _; (refine callQ_of (f := 77) Try.call77 (.int .i64 (foldI min x.xs)) (fun ρ w' hw => min_any w' x (holds_of_abs hw fun R h => hxok.later h.1.1) (by omega)) ?_)) | (show callQ _ 78 _ _ _ _ _; (refine callQ_of (f := 78) Try.call78 (.int .i64 (foldI max x.xs)) (fun ρ w' hw => max_any w' x (holds_of_abs hw fun R h => hxok.later h.1.1) (by omega)) ?_)) | (show drawK _ 14 _ _ _ _ _ _; (refine draw_tree tabOk mixed [] [] (.take 0 (.take 1 (.take 2 (.take 6 (.alt 3 (.alt 4 (.alt 5 (.alt 7 (.one 8 (.one 9 (.take 10 (.done)))) (.one 8 (.alt 7 (.one 9 (.take 10 (.done))) (.one 9 (.one 7 (.take 10 (.done))))))) (.one 7 (.one 5 (.one 8 (.one 9 (.take 10 (.done))))))) (.one 7 (.one 4 (.one 5 (.one 8 (.one 9 (.take 10 (.done)))))))) (.one 7 (.one 3 (.one 4 (.one 5 (.one 8 (.one 9 (.take 10 (.done))))))))))))) (by kernel_rfl) (by kernel_rfl) (by kernel_rfl) (List.nil_sublist _) ?_)) | (show keepK _ _ _ _ _; (refine keep_of (by repeat (first | exact List.Sublist.refl _ | exact List.nil_sublist _ | apply List.Sublist.cons_cons | apply List.Sublist.cons)) (by first | exact (fun _ _ h => h) | exact (fun _ _ h => h.1) | exact (fun _ _ h => h.1.1)) ?_)) | (show callK _ 45 _ _ _ _ _; (refine call_clone x.xs Try.call45 hxok.fits hxok.few (fun ρ w' hw => clone_any w' x (holds_of_abs hw fun R h => hxok.later h.1.1) (by omega)) (fun y hy hys => ?_))) | (show sliceK _ _ _ _ _ _ _ _; (refine slice_oneI (by omega) (by omega) ?_)) | (show rowStoreK _ _ _ _ _; (refine gridK_store hkl hlt ?_)) | (show drawK _ 11 _ _ _ _ _ _; (refine draw_tree tabOk mixed [15] _ (.take 0 (.take 1 (.take 2 (.take 3 (.take 4 (.take 5 (.take 6 (.take 7 (.take 8 (.take 9 (.take 10 (.take 11 (.take 12 (.one 13 (.take 14 (.one 15 (.done))))))))))))))))) (by kernel_rfl) (by kernel_rfl) (by kernel_rfl) (List.Sublist.refl _) ?_)) | (show drawK _ 12 _ _ _ _ _ _; (refine draw_quiet tabOk mixed (by kernel_rfl) ?_)) | (show Wp _ _ _ _ _ _ _; (refine Wp.go tabOk rfl ?_)) | (show @cmpK _ _ _; (first | refine cmp_yes (by omega) ?_ | refine cmp_no (by omega) ?_ | (refine cmp_both ?_ ?_ <;> intro _))) | (show wrapK _ _ _; (refine wrap_i64 (by omega) (by omega) ?_)) | (show leK _ _ _; (refine le_of (by first | exact Nat.le_refl _ | omega) ?_)) | (show roomK _ _ _; (refine room_of (by first | omega | (dsimp only; omega)) ?_)) | (show ltK _ _ _; (refine lt_of (by omega) ?_)) | (show _ ∧ _; (refine ⟨?_, ?_⟩)) | (show keepK _ _ _ _ _; (refine keep_of (by first | exact List.Sublist.refl _ | exact List.Sublist.cons _ (List.Sublist.refl _) | exact List.Sublist.cons _ (List.Sublist.cons _ (List.Sublist.refl _)) | exact List.Sublist.cons _ (List.Sublist.cons _ (List.Sublist.cons _ (List.Sublist.refl _)))) (by first | exact (fun _ _ h => h) | exact (fun _ _ h => h.1) | exact (fun _ _ h => h.1.1)) ?_)) | (show ownK _ _ _ _ _; (refine own_keep ?_))))
          all_goals (conv => whnf)
          all_goals exact ⟨(i + 1, kn ++ [y], ⟨some (if cc = 1 then ca else ca.add 1), cc - 1, xs⟩), [], ⟨hlt, known_snocH hkn hys hp hs (by rw [hy]; exact hwi) (by rw [hy, hcs]; omega), InV.rest_ok hcur rfl, by rw [List.map_append, List.map_cons, List.map_nil, hy]; exact hv2⟩, by simp only; omega, rfl, ⟨rfl, rfl, rfl, rfl, rfl, rfl, rfl, trivial⟩, ⟨(by repeat (first | exact List.mem_cons_self | apply List.mem_cons_of_mem)), (by repeat (first | exact List.mem_cons_self | apply List.mem_cons_of_mem)), trivial⟩, fun R w' h => ⟨h.1.1, eachA_snoc h.1.2 h.2⟩⟩
    · have hv1 : valsQ (check g).2 (n :: g.l.drop (i + 1)) (kn.map IntsV.xs) (cur.l.map IntsV.xs) = valsQ (check g).2 (g.l.drop (i + 1)) (kn.map IntsV.xs ++ [numsA n cnt t.xs (kn.getD n.a.toNat nilI).xs (kn.getD n.b.toNat nilI).xs]) (cur.l.map IntsV.xs) := by
        conv => lhs; unfold valsQ
        unfold numsAt
        rw [if_pos hk1, getD_xs, getD_xs, hkml, e1, hcnt0, hts]; rfl
      rw [hv1] at hv
      have hcs : entries s = cnt := by rw [← hus]; exact hcnt
      have kA := known_argH hsp hkn (by omega) n.a.toNat
      have kB := known_argH hsp hkn (by omega) n.b.toNat
      have hnum := num_inH hsp hkn (by omega) (formed_of hform)
      have hwn := nums_in hpl hk1 hnum kA.1 kB.1
      have hEq : endsAt (check g).2 n ((spansH g).2.take i) = endsA n cnt t.xs (((spansH g).2.take i).getD n.a.toNat (0, 0)) (((spansH g).2.take i).getD n.b.toNat (0, 0)) := by
        unfold endsAt
        rw [show ((spansH g).2.take i).length = i by rw [List.length_take, hsl]; omega, e1, hcnt0, hts]; rfl
      have gA := gridK_getD (n := g.l.length) (l := kn) (j := n.a.toNat) (by omega) (by omega)
      have gB := gridK_getD (n := g.l.length) (l := kn) (j := n.b.toNat) (by omega) (by omega)
      rcases hfn with hf0 | ⟨f1, f2, f3, hf0⟩
      all_goals rw [hf0] at hat hnm
      all_goals
        (repeat' ((conv => whnf) <;> first | (show idxK _ _ _ _ _; (refine idx_of a i ha rfl hlt ?_)) | (show roAggK _ _ _ _; (refine roAgg_row (fun R w' h => by rw [← ha]; exact rows_base h.1.1 hg.rows) _ hrow rfl ?_)) | (show callK _ 75 _ _ _ _ _; (refine call_pure (f := 75) Try.call75 _ (fun ρ w' hw => hat w' (holds_of_abs hw fun R h => shapes_okI hsv (by omega) h.1.2)) ?_)) | (show idxRowK _ _ _ _ _ _; (first | refine idxRow_of n.a.toNat (by omega) (by omega) (by rw [shRows_length, gridK_length (by omega)]; exact Nat.le_refl _) ?_ | refine idxRow_of n.b.toNat (by omega) (by omega) (by rw [shRows_length, gridK_length (by omega)]; exact Nat.le_refl _) ?_ | refine idxRow_of i rfl hlt (by rw [shRows_length, gridK_length (by omega)]; exact Nat.le_refl _) ?_)) | (show rowK _ _ _ _; (first | refine row_of _ _ gA rfl ?_ | refine row_of _ _ gB rfl ?_)) | (show keepK _ _ _ _ _; (refine keep_of (by repeat (first | exact List.Sublist.refl _ | exact List.nil_sublist _ | apply List.Sublist.cons_cons | apply List.Sublist.cons)) (by first | exact (fun _ _ h => h) | exact (fun _ _ h => h.1) | exact (fun _ _ h => h.1.1)) ?_)) | (show callK _ 80 _ _ _ _ _; (refine call_past Try.call80 IntsV.val intsA (fun x => x.xs = numsA n cnt t.xs (kn.getD n.a.toNat nilI).xs (kn.getD n.b.toNat nilI).xs ∧ x.sane) (fun ρ w' hw => hnm hk1 w' (holds_of_abs hw fun R h => hn.later h.1.1) (holds_of_abs hw fun R h => (shapes_okI hsv (by omega) h.1.2).each t htm) (kn.getD n.a.toNat nilI) (kn.getD n.b.toNat nilI) (holds_of_abs hw fun R h => getD_kn hkn.sane h.2 _) (holds_of_abs hw fun R h => getD_kn hkn.sane h.2 _) kA.2.1 kB.2.1 hnum) (fun x hx => ?_))) | (show rowStoreK _ _ _ _ _; (refine gridK_store hkl hlt ?_)) | (show drawK _ 11 _ _ _ _ _ _; (refine draw_tree tabOk mixed [15] _ (.take 0 (.take 1 (.take 2 (.take 3 (.take 4 (.take 5 (.take 6 (.take 7 (.take 8 (.take 9 (.take 10 (.take 11 (.take 12 (.one 13 (.take 14 (.one 15 (.done))))))))))))))))) (by kernel_rfl) (by kernel_rfl) (by kernel_rfl) (List.Sublist.refl _) ?_)) | (show drawK _ 12 _ _ _ _ _ _; (refine draw_quiet tabOk mixed (by kernel_rfl) ?_)) | (show drawK _ 14 _ _ _ _ _ _; (refine draw_tree tabOk mixed [9] _ (.take 0 (.take 1 (.take 2 (.take 3 (.take 4 (.alt 5 (.take 8 (.alt 6 (.alt 7 (.one 9 (.one 10 (.done))) (.one 9 (.one 7 (.one 10 (.done))))) (.one 9 (.one 6 (.one 7 (.one 10 (.done))))))) (.one 6 (.alt 5 (.take 8 (.alt 7 (.one 9 (.one 10 (.done))) (.one 9 (.one 7 (.one 10 (.done)))))) (.one 7 (.one 5 (.take 8 (.one 9 (.one 10 (.done)))))))))))))) (by kernel_rfl) (by kernel_rfl) (by kernel_rfl) (List.Sublist.refl _) ?_)) | (show Wp _ _ _ _ _ _ _; (refine Wp.go tabOk rfl ?_)) | (show @cmpK _ _ _; (first | refine cmp_yes (by omega) ?_ | refine cmp_no (by omega) ?_ | (refine cmp_both ?_ ?_ <;> intro _))) | (show wrapK _ _ _; (refine wrap_i64 (by omega) (by omega) ?_)) | (show leK _ _ _; (refine le_of (by first | exact Nat.le_refl _ | omega) ?_)) | (show roomK _ _ _; (refine room_of (by first | omega | (dsimp only; omega)) ?_)) | (show ltK _ _ _; (refine lt_of (by omega) ?_)) | (show _ ∧ _; (refine ⟨?_, ?_⟩)) | (show keepK _ _ _ _ _; (refine keep_of (by first | exact List.Sublist.refl _ | exact List.Sublist.cons _ (List.Sublist.refl _) | exact List.Sublist.cons _ (List.Sublist.cons _ (List.Sublist.refl _)) | exact List.Sublist.cons _ (List.Sublist.cons _ (List.Sublist.cons _ (List.Sublist.refl _)))) (by first | exact (fun _ _ h => h) | exact (fun _ _ h => h.1) | exact (fun _ _ h => h.1.1)) ?_)) | (show ownK _ _ _ _ _; (refine own_keep ?_))))
        all_goals (conv => whnf)
        all_goals exact ⟨(i + 1, kn ++ [x], cur), [], ⟨hlt, known_snocH hkn hx.2 hp hs (by rw [hx.1, hpe]; unfold spanAt; rw [hEq]; exact hwn.1) (by rw [hx.1, hcs, hwn.2]), hcur, by rw [List.map_append, List.map_cons, List.map_nil, hx.1]; exact hv⟩, by simp only; omega, rfl, ⟨rfl, rfl, rfl, rfl, rfl, rfl, rfl, trivial⟩, ⟨(by repeat (first | exact List.mem_cons_self | apply List.mem_cons_of_mem)), (by repeat (first | exact List.mem_cons_self | apply List.mem_cons_of_mem)), trivial⟩, fun R w' h => ⟨h.1.1, eachA_snoc h.1.2 h.2⟩⟩
  · obtain rfl : i = g.l.length := by omega
    rw [List.drop_length] at hv
    have hgO := gridK_getD (n := g.l.length) (l := kn) (j := g.out.toNat) (by omega) (by omega)
    by_cases hrest : 0 < cur.l.length
    · have hv2 : valsH g (iv.l.map IntsV.xs) = (12, []) := by
        rw [← hv]
        conv => lhs; unfold valsQ
        rw [if_pos (by simpa using hrest)]
      (repeat' ((conv => whnf) <;> first | (show drawK _ 11 _ _ _ _ _ _; (refine draw_tree tabOk mixed [15] _ (.take 0 (.take 1 (.take 2 (.take 3 (.take 4 (.take 5 (.take 6 (.take 7 (.take 8 (.take 9 (.take 10 (.take 11 (.take 12 (.one 13 (.take 14 (.one 15 (.done))))))))))))))))) (by kernel_rfl) (by kernel_rfl) (by kernel_rfl) (List.Sublist.refl _) ?_)) | (show drawK _ 12 _ _ _ _ _ _; (refine draw_quiet tabOk mixed (by kernel_rfl) ?_)) | (show drawK _ 14 _ _ _ _ _ _; (refine draw_tree tabOk mixed [9] _ (.take 0 (.take 1 (.take 2 (.take 3 (.take 4 (.alt 5 (.take 8 (.alt 6 (.alt 7 (.one 9 (.one 10 (.done))) (.one 9 (.one 7 (.one 10 (.done))))) (.one 9 (.one 6 (.one 7 (.one 10 (.done))))))) (.one 6 (.alt 5 (.take 8 (.alt 7 (.one 9 (.one 10 (.done))) (.one 9 (.one 7 (.one 10 (.done)))))) (.one 7 (.one 5 (.take 8 (.one 9 (.one 10 (.done)))))))))))))) (by kernel_rfl) (by kernel_rfl) (by kernel_rfl) (List.Sublist.refl _) ?_)) | (show Wp _ _ _ _ _ _ _; (refine Wp.go tabOk rfl ?_)) | (show @cmpK _ _ _; (first | refine cmp_yes (by omega) ?_ | refine cmp_no (by omega) ?_ | (refine cmp_both ?_ ?_ <;> intro _))) | (show wrapK _ _ _; (refine wrap_i64 (by omega) (by omega) ?_)) | (show leK _ _ _; (refine le_of (by first | exact Nat.le_refl _ | omega) ?_)) | (show roomK _ _ _; (refine room_of (by first | omega | (dsimp only; omega)) ?_)) | (show ltK _ _ _; (refine lt_of (by omega) ?_)) | (show _ ∧ _; (refine ⟨?_, ?_⟩)) | (show keepK _ _ _ _ _; (refine keep_of (by first | exact List.Sublist.refl _ | exact List.Sublist.cons _ (List.Sublist.refl _) | exact List.Sublist.cons _ (List.Sublist.cons _ (List.Sublist.refl _)) | exact List.Sublist.cons _ (List.Sublist.cons _ (List.Sublist.cons _ (List.Sublist.refl _)))) (by first | exact (fun _ _ h => h) | exact (fun _ _ h => h.1) | exact (fun _ _ h => h.1.1)) ?_)) | (show ownK _ _ _ _ _; (refine own_keep ?_))))
      conv => whnf
      exact run_bad12 (fun _ _ h => h.1.1) rfl hv2 (fun _ => rfl)
    · have hv2 : valsH g (iv.l.map IntsV.xs) = (0, kn.map IntsV.xs) := by
        rw [← hv]
        conv => lhs; unfold valsQ
        rw [if_neg (by simpa using hrest)]
      (repeat' ((conv => whnf) <;> first | (show idxRowK _ _ _ _ _ _; (refine idxRow_of g.out.toNat (by omega) (by omega) (by rw [shRows_length, gridK_length (by omega)]; exact Nat.le_refl _) ?_)) | (show rowK _ _ _ _; (refine row_of _ _ hgO rfl ?_)) | (show drawK _ 11 _ _ _ _ _ _; (refine draw_tree tabOk mixed [15] _ (.take 0 (.take 1 (.take 2 (.take 3 (.take 4 (.take 5 (.take 6 (.take 7 (.take 8 (.take 9 (.take 10 (.take 11 (.take 12 (.one 13 (.take 14 (.one 15 (.done))))))))))))))))) (by kernel_rfl) (by kernel_rfl) (by kernel_rfl) (List.Sublist.refl _) ?_)) | (show drawK _ 12 _ _ _ _ _ _; (refine draw_quiet tabOk mixed (by kernel_rfl) ?_)) | (show drawK _ 14 _ _ _ _ _ _; (refine draw_tree tabOk mixed [9] _ (.take 0 (.take 1 (.take 2 (.take 3 (.take 4 (.alt 5 (.take 8 (.alt 6 (.alt 7 (.one 9 (.one 10 (.done))) (.one 9 (.one 7 (.one 10 (.done))))) (.one 9 (.one 6 (.one 7 (.one 10 (.done))))))) (.one 6 (.alt 5 (.take 8 (.alt 7 (.one 9 (.one 10 (.done))) (.one 9 (.one 7 (.one 10 (.done)))))) (.one 7 (.one 5 (.take 8 (.one 9 (.one 10 (.done)))))))))))))) (by kernel_rfl) (by kernel_rfl) (by kernel_rfl) (List.Sublist.refl _) ?_)) | (show Wp _ _ _ _ _ _ _; (refine Wp.go tabOk rfl ?_)) | (show @cmpK _ _ _; (first | refine cmp_yes (by omega) ?_ | refine cmp_no (by omega) ?_ | (refine cmp_both ?_ ?_ <;> intro _))) | (show wrapK _ _ _; (refine wrap_i64 (by omega) (by omega) ?_)) | (show leK _ _ _; (refine le_of (by first | exact Nat.le_refl _ | omega) ?_)) | (show roomK _ _ _; (refine room_of (by first | omega | (dsimp only; omega)) ?_)) | (show ltK _ _ _; (refine lt_of (by omega) ?_)) | (show _ ∧ _; (refine ⟨?_, ?_⟩)) | (show keepK _ _ _ _ _; (refine keep_of (by first | exact List.Sublist.refl _ | exact List.Sublist.cons _ (List.Sublist.refl _) | exact List.Sublist.cons _ (List.Sublist.cons _ (List.Sublist.refl _)) | exact List.Sublist.cons _ (List.Sublist.cons _ (List.Sublist.cons _ (List.Sublist.refl _)))) (by first | exact (fun _ _ h => h) | exact (fun _ _ h => h.1) | exact (fun _ _ h => h.1.1)) ?_)) | (show ownK _ _ _ _ _; (refine own_keep ?_))))
      conv => whnf
      have hko : g.out.toNat < kn.length := by omega
      have hge : kn.getD g.out.toNat nilI = kn[g.out.toNat] := by rw [List.getD_eq_getElem?_getD, List.getElem?_eq_getElem hko]; rfl
      exact run_good0 (fun _ _ h => h.1.1) rfl (by rw [hge]; exact hkn.sane _ (List.getElem_mem hko)) hv2 (getD_xs _ _).symm (fun R w' h => by rw [hge]; exact h.2 _ (List.getElem_mem hko))
end Go.Proofs.Ytajbngkcgbehlaa
/- JT -/
namespace Go.Proofs.Ytajbngkcgbehlaa
open Go.SX Go.RowKit
theorem span_neq {s : Sp} (h1 : i64 s.1) (h2 : i64 s.2) {ox oy : Operand} {K : SV → Prop} (h : K (.c (.bool false))) : pureK Try.prog (do eqGuard .neq 67 ox oy (spanV s) (spanV s); binOp .neq 67 (spanV s) (spanV s)) K := by
  rw [pureK_def]
  refine ⟨_, fun w => ?_, h⟩
  have g1 : (eqGuard .neq 67 ox oy (spanV s) (spanV s)).run Try.prog w = .ok () w := by
    have : Try.prog.eqGuardType Try.prog.depth 67 = false := by kernel_rfl
    simp [eqGuard, spanV, this]
  obtain ⟨r, q2, q3⟩ := run_equalIn_deep (P := Try.prog) 9998 2 67 (by kernel_rfl) w 2 2 (spanV s) (spanV s) (spLits s) (spLits s) (by simp [spanV, Value.formed, Try.underlying67, c_span]) (by simp [spanV, Value.formed, Try.underlying67, c_span]) (sp_lits s h1 h2) (sp_lits s h1 h2)
  have hr : r = true := q3.2 rfl
  subst hr
  have h4 : (Op.equal 67 (spanV s) (spanV s)).run Try.prog w = .ok true w := q2
  simp only [Sem.run_bind, g1, Result.andThen_ok]
  simp [spanV, binOp] at h4 ⊢
  rw [h4]; rfl
theorem spanLe {g : GraphV} (hck : (check g).1 = 0) {i : Nat} {n : NodeV} (hn : g.l[i]? = some n) {acc : List Sp} (ha : acc.length = i) : (spanAt (check g).2 n acc).1 ≤ (spanAt (check g).2 n acc).2 := by
  obtain ⟨_, _, cnt, hcnt, hpl⟩ := place_in hck hn
  unfold spanAt spanE
  refine foldI_le ?_
  unfold endsAt
  rw [ha, hcnt]
  exact endsA_len hpl _ _
theorem spansBd {g : GraphV} (h : (spansH g).1 = 0) : (spansH g).2.length ≤ 24 ∧ ∀ s ∈ (spansH g).2, i64 s.1 ∧ i64 s.2 := by
  obtain ⟨hck, hsl, hsi⟩ := spansH_in h
  obtain ⟨_, hl24, _⟩ := check_in hck
  refine ⟨by omega, fun s hs => ?_⟩
  obtain ⟨j, hj⟩ := List.mem_iff_getElem?.1 hs
  obtain ⟨hjl, _⟩ := List.getElem?_eq_some_iff.1 hj
  obtain ⟨s', h1, hse, h2, h3⟩ := hsi j _ (List.getElem?_eq_getElem (show j < g.l.length by omega))
  rw [hj] at h1
  simp only [Option.some.injEq] at h1
  subst h1
  have := spanLe hck (List.getElem?_eq_getElem (show j < g.l.length by omega)) (acc := (spansH g).2.take j) (by rw [List.length_take]; omega)
  rw [← hse] at this
  unfold i64; omega
theorem sameSpans_any (w : World) (b1 b2 : Option Addr) (c1 c2 : Nat) (l : List Sp) (h1 : RowsI w b1 2 (spRows l)) (h2 : RowsI w b2 2 (spRows l)) (hl : l.length ≤ 1000) (hf : ∀ s ∈ l, i64 s.1 ∧ i64 s.2) : Calls Try.prog 36 #[.slice b1 l.length c1, .slice b2 l.length c2] w fun e w' => e = .returned (.bool true) ∧ Ext w w' := by
  refine calls_of tab tabOk Try.func36 rfl rfl rfl [] (fun _ => ⟨none, 0⟩) [.c (.slice b1 l.length c1), .c (.slice b2 l.length c2)] [] (baseA w) 0 rfl rfl (by show 2 ≤ _; decide) (abs_base w) ?_
  (repeat' ((conv => whnf) <;> first | (show drawK _ 6 _ _ _ _ _ _; (refine draw_quiet tabOk mixed (by kernel_rfl) ?_)) | (show Wp _ _ _ _ _ _ _; (refine Wp.go tabOk rfl ?_)) | (show @cmpK _ _ _; (first | refine cmp_yes (by omega) ?_ | refine cmp_no (by omega) ?_ | (refine cmp_both ?_ ?_ <;> intro _))) | (show wrapK _ _ _; (refine wrap_i64 (by omega) (by omega) ?_)) | (show leK _ _ _; (refine le_of (by first | exact Nat.le_refl _ | omega) ?_)) | (show roomK _ _ _; (refine room_of (by first | omega | (dsimp only; omega)) ?_)) | (show ltK _ _ _; (refine lt_of (by omega) ?_)) | (show _ ∧ _; (refine ⟨?_, ?_⟩)) | (show keepK _ _ _ _ _; (refine keep_of (by first | exact List.Sublist.refl _ | exact List.Sublist.cons _ (List.Sublist.refl _) | exact List.Sublist.cons _ (List.Sublist.cons _ (List.Sublist.refl _)) | exact List.Sublist.cons _ (List.Sublist.cons _ (List.Sublist.cons _ (List.Sublist.refl _)))) (by first | exact (fun _ _ h => h) | exact (fun _ _ h => h.1) | exact (fun _ _ h => h.1.1)) ?_)) | (show ownK _ _ _ _ _; (refine own_keep ?_))))
  refine Wp.loop (σ := Nat) 0 (fun i => [(0, .c (.slice b1 l.length c1)), (1, .c (.slice b2 l.length c2)), (12, .c (.int .i64 l.length)), (13, .c (.int .i64 i))]) (fun _ => []) (fun _ => baseA w)
    (fun i => i ≤ l.length) (fun i => l.length - i) 0 [] (by decide) (fun s => ⟨rfl, rfl⟩) (Nat.zero_le _) ⟨rfl, ⟨rfl, rfl, rfl, rfl, trivial⟩, trivial, fun _ _ h => h⟩ ?_
  rintro i hi
  by_cases hlt : i < l.length
  · obtain ⟨a1, rfl⟩ := base_some (j := i) h1 (by rw [spRows_length]; exact hlt)
    obtain ⟨a2, rfl⟩ := base_some (j := i) h2 (by rw [spRows_length]; exact hlt)
    have hrow := spRows_get hlt
    have hfs := hf _ (List.getElem_mem hlt)
    generalize l[i] = s at *
    (repeat' ((conv => whnf) <;> first | (show idxK _ _ _ _ _; (first | refine idx_of a1 i rfl rfl hlt ?_ | refine idx_of a2 i rfl rfl hlt ?_)) | (show roAggK _ _ _ _; (first | refine roAgg_row (fun R w' h => rows_base h h1) _ hrow rfl ?_ | refine roAgg_row (fun R w' h => rows_base h h2) _ hrow rfl ?_)) | (show pureK _ _ _; (refine span_neq (s := s) hfs.1 hfs.2 ?_)) | (show drawK _ 6 _ _ _ _ _ _; (refine draw_quiet tabOk mixed (by kernel_rfl) ?_)) | (show Wp _ _ _ _ _ _ _; (refine Wp.go tabOk rfl ?_)) | (show @cmpK _ _ _; (first | refine cmp_yes (by omega) ?_ | refine cmp_no (by omega) ?_ | (refine cmp_both ?_ ?_ <;> intro _))) | (show wrapK _ _ _; (refine wrap_i64 (by omega) (by omega) ?_)) | (show leK _ _ _; (refine le_of (by first | exact Nat.le_refl _ | omega) ?_)) | (show roomK _ _ _; (refine room_of (by first | omega | (dsimp only; omega)) ?_)) | (show ltK _ _ _; (refine lt_of (by omega) ?_)) | (show _ ∧ _; (refine ⟨?_, ?_⟩)) | (show keepK _ _ _ _ _; (refine keep_of (by first | exact List.Sublist.refl _ | exact List.Sublist.cons _ (List.Sublist.refl _) | exact List.Sublist.cons _ (List.Sublist.cons _ (List.Sublist.refl _)) | exact List.Sublist.cons _ (List.Sublist.cons _ (List.Sublist.cons _ (List.Sublist.refl _)))) (by first | exact (fun _ _ h => h) | exact (fun _ _ h => h.1) | exact (fun _ _ h => h.1.1)) ?_)) | (show ownK _ _ _ _ _; (refine own_keep ?_))))
    all_goals (conv => whnf)
    all_goals exact ⟨i + 1, [], hlt, by omega, rfl, ⟨rfl, rfl, rfl, rfl, trivial⟩, trivial, fun _ _ h => h⟩
  · have hiz : i = l.length := by omega
    subst hiz
    (repeat' ((conv => whnf) <;> first | (show drawK _ 6 _ _ _ _ _ _; (refine draw_quiet tabOk mixed (by kernel_rfl) ?_)) | (show Wp _ _ _ _ _ _ _; (refine Wp.go tabOk rfl ?_)) | (show @cmpK _ _ _; (first | refine cmp_yes (by omega) ?_ | refine cmp_no (by omega) ?_ | (refine cmp_both ?_ ?_ <;> intro _))) | (show wrapK _ _ _; (refine wrap_i64 (by omega) (by omega) ?_)) | (show leK _ _ _; (refine le_of (by first | exact Nat.le_refl _ | omega) ?_)) | (show roomK _ _ _; (refine room_of (by first | omega | (dsimp only; omega)) ?_)) | (show ltK _ _ _; (refine lt_of (by omega) ?_)) | (show _ ∧ _; (refine ⟨?_, ?_⟩)) | (show keepK _ _ _ _ _; (refine keep_of (by first | exact List.Sublist.refl _ | exact List.Sublist.cons _ (List.Sublist.refl _) | exact List.Sublist.cons _ (List.Sublist.cons _ (List.Sublist.refl _)) | exact List.Sublist.cons _ (List.Sublist.cons _ (List.Sublist.cons _ (List.Sublist.refl _)))) (by first | exact (fun _ _ h => h) | exact (fun _ _ h => h.1) | exact (fun _ _ h => h.1.1)) ?_)) | (show ownK _ _ _ _ _; (refine own_keep ?_))))
    all_goals (conv => whnf)
    all_goals exact ends_bool (fun _ _ h => h) rfl rfl
theorem lawSpans_any (w : World) (g : GraphV) (hg : g.raw w) : Calls Try.prog 10 #[g.val] w fun e w' => e = .returned (.bool true) ∧ Ext w w' := by
  by_cases he : (spansH g).1 = 0
  · obtain ⟨hl, hb⟩ := spansBd he
    refine calls_of tab tabOk Try.func10 rfl rfl rfl [] (fun _ => ⟨none, 0⟩) [.agg [.c (.slice g.base g.l.length g.cap), .c (.int .i64 g.out)]] [] (baseA w) 0 rfl rfl (by show 1 ≤ _; decide) (abs_base w) ?_
    (repeat' ((conv => whnf) <;> first | (show callK _ 33 _ _ _ _ _; (refine call_pure (f := 33) Try.call33 (.bool true) (fun ρ w' hw => fixed17_any w') ?_)) | (show callK _ 16 _ _ _ _ _; ((refine call_bool (f := 16) Try.call16 _ (fun ρ w' hw => few_any w' g (holds_of_abs hw fun R h => hg.later h)) ?_ ?_ <;> intro hf))) | (show callK _ 34 _ _ _ _ _; (refine call_spans (f := 34) (spansH g) Try.call34 (fun ρ w' hw => spans_all w' g (holds_of_abs hw fun R h => (raw_ok hg hf).later h)) (fun hne => absurd he hne) (fun _ sb sc => ?_))) | (show callK _ 35 _ _ _ _ _; (refine call_spans (f := 35) (spansH g) Try.call35 (fun ρ w' hw => refSpans_any w' g (holds_of_abs hw fun R h => (raw_ok hg hf).later h.1)) (fun hne => absurd he hne) (fun _ tb tc => ?_))) | (show callK _ 36 _ _ _ _ _; (refine call_pure (f := 36) Try.call36 (.bool true) (fun ρ w' hw => sameSpans_any w' sb tb sc tc (spansH g).2 (holds_of_abs hw fun R h => rowsA_in h.1.2) (holds_of_abs hw fun R h => rowsA_in h.2) (by omega) hb) ?_)) | (show @cmpK _ _ _; (refine cmp_yes rfl ?_)) | (show Wp _ _ _ _ _ _ _; (refine Wp.go tabOk rfl ?_)) | (show @cmpK _ _ _; (first | refine cmp_yes (by omega) ?_ | refine cmp_no (by omega) ?_ | (refine cmp_both ?_ ?_ <;> intro _))) | (show wrapK _ _ _; (refine wrap_i64 (by omega) (by omega) ?_)) | (show leK _ _ _; (refine le_of (by first | exact Nat.le_refl _ | omega) ?_)) | (show roomK _ _ _; (refine room_of (by first | omega | (dsimp only; omega)) ?_)) | (show ltK _ _ _; (refine lt_of (by omega) ?_)) | (show _ ∧ _; (refine ⟨?_, ?_⟩)) | (show keepK _ _ _ _ _; (refine keep_of (by first | exact List.Sublist.refl _ | exact List.Sublist.cons _ (List.Sublist.refl _) | exact List.Sublist.cons _ (List.Sublist.cons _ (List.Sublist.refl _)) | exact List.Sublist.cons _ (List.Sublist.cons _ (List.Sublist.cons _ (List.Sublist.refl _)))) (by first | exact (fun _ _ h => h) | exact (fun _ _ h => h.1) | exact (fun _ _ h => h.1.1)) ?_)) | (show ownK _ _ _ _ _; (refine own_keep ?_))))
    all_goals (conv => whnf)
    all_goals first | exact ends_bool (fun _ _ h => h.1.1) rfl rfl | exact ends_bool (fun _ _ h => h) rfl rfl
  · refine calls_of tab tabOk Try.func10 rfl rfl rfl [] (fun _ => ⟨none, 0⟩) [.agg [.c (.slice g.base g.l.length g.cap), .c (.int .i64 g.out)]] [] (baseA w) 0 rfl rfl (by show 1 ≤ _; decide) (abs_base w) ?_
    (repeat' ((conv => whnf) <;> first | (show callK _ 33 _ _ _ _ _; (refine call_pure (f := 33) Try.call33 (.bool true) (fun ρ w' hw => fixed17_any w') ?_)) | (show callK _ 16 _ _ _ _ _; ((refine call_bool (f := 16) Try.call16 _ (fun ρ w' hw => few_any w' g (holds_of_abs hw fun R h => hg.later h)) ?_ ?_ <;> intro hf))) | (show callK _ 34 _ _ _ _ _; (refine call_spans (f := 34) (spansH g) Try.call34 (fun ρ w' hw => spans_all w' g (holds_of_abs hw fun R h => (raw_ok hg hf).later h)) (fun _ => ?_) (fun h => absurd h he))) | (show callK _ 35 _ _ _ _ _; (refine call_spans (f := 35) (spansH g) Try.call35 (fun ρ w' hw => refSpans_any w' g (holds_of_abs hw fun R h => (raw_ok hg hf).later h)) (fun _ => ?_) (fun h => absurd h he))) | (show callK _ 36 _ _ _ _ _; (refine call_pure (f := 36) Try.call36 (.bool true) (fun ρ w' hw => sameSpans_any w' none none 0 0 [] (.inl rfl) (.inl rfl) (by simp) (fun s hs => by simp at hs)) ?_)) | (show @cmpK _ _ _; (refine cmp_yes rfl ?_)) | (show Wp _ _ _ _ _ _ _; (refine Wp.go tabOk rfl ?_)) | (show @cmpK _ _ _; (first | refine cmp_yes (by omega) ?_ | refine cmp_no (by omega) ?_ | (refine cmp_both ?_ ?_ <;> intro _))) | (show wrapK _ _ _; (refine wrap_i64 (by omega) (by omega) ?_)) | (show leK _ _ _; (refine le_of (by first | exact Nat.le_refl _ | omega) ?_)) | (show roomK _ _ _; (refine room_of (by first | omega | (dsimp only; omega)) ?_)) | (show ltK _ _ _; (refine lt_of (by omega) ?_)) | (show _ ∧ _; (refine ⟨?_, ?_⟩)) | (show keepK _ _ _ _ _; (refine keep_of (by first | exact List.Sublist.refl _ | exact List.Sublist.cons _ (List.Sublist.refl _) | exact List.Sublist.cons _ (List.Sublist.cons _ (List.Sublist.refl _)) | exact List.Sublist.cons _ (List.Sublist.cons _ (List.Sublist.cons _ (List.Sublist.refl _)))) (by first | exact (fun _ _ h => h) | exact (fun _ _ h => h.1) | exact (fun _ _ h => h.1.1)) ?_)) | (show ownK _ _ _ _ _; (refine own_keep ?_))))
    all_goals (conv => whnf)
    all_goals exact ends_bool (fun _ _ h => h) rfl rfl
end Go.Proofs.Ytajbngkcgbehlaa
/- GT -/
namespace Go.Proofs.Ytajbngkcgbehlaa
open Go.SX Go.ChangeShapes Go.WideShapes Go.ChangeAt Go.RowKit
/-- a field's cells: a number, or numbers -/
def FieldQ (w : World) (f : Field) (cs : List Value) : Prop :=
  (f.type = 3 → ∃ i, (Lit.int .i64 i).wf = true ∧ cs = [.int .i64 i]) ∧ (f.type = 32 → ∃ u : IntsV, cs = [u.val] ∧ u.raw w)
theorem list9 {cs : List Value} (h : cs.length = 9) : ∃ a b c d e f g i j, cs = [a, b, c, d, e, f, g, i, j] := by
  match cs, h with
  | [a, b, c, d, e, f, g, i, j], _ => exact ⟨a, b, c, d, e, f, g, i, j, rfl⟩
theorem list2 {cs : List Value} (h : cs.length = 2) : ∃ a b, cs = [a, b] := by
  match cs, h with
  | [a, b], _ => exact ⟨a, b, rfl⟩
theorem c_int : Try.prog.cellsOf 3 = 1 := by kernel_rfl
theorem c_ints : Try.prog.cellsOf 32 = 1 := by kernel_rfl
theorem opens_node (w : World) : Opens Try.prog w 43 fun cs => ∃ n : NodeV, cs = n.cells ∧ n.raw w := by
  have h := opens_struct (P := Try.prog) (w := w) (k := 9) (Q := FieldQ w) Try.underlying43 (by kernel_rfl) (by
    intro f hf
    have hi : ∀ t, t = 3 → Opens Try.prog w t fun cs => (t = 3 → ∃ i, (Lit.int .i64 i).wf = true ∧ cs = [.int .i64 i]) ∧ (t = 32 → ∃ u : IntsV, cs = [u.val] ∧ u.raw w) := by
      rintro t rfl
      exact Opens.mono (opens_int Try.underlying3) fun cs hc => ⟨fun _ => hc, fun h => (by cases h)⟩
    have hs : ∀ t, t = 32 → Opens Try.prog w t fun cs => (t = 3 → ∃ i, (Lit.int .i64 i).wf = true ∧ cs = [.int .i64 i]) ∧ (t = 32 → ∃ u : IntsV, cs = [u.val] ∧ u.raw w) := by
      rintro t rfl
      exact Opens.mono (opens_intsV w) fun cs hc => ⟨fun h => (by cases h), fun _ => hc⟩
    simp only [List.mem_toArray, List.mem_cons, List.not_mem_nil, or_false] at hf
    rcases hf with rfl | rfl | rfl | rfl | rfl | rfl | rfl | rfl | rfl
    all_goals first | (refine Opens.mono (Q' := FieldQ w _) (hi _ rfl) ?_; intro cs h; exact h) | (refine Opens.mono (Q' := FieldQ w _) (hs _ rfl) ?_; intro cs h; exact h))
  refine Opens.mono h ?_
  rintro cs ⟨hl, hf⟩
  obtain ⟨a, b, c, d, e, f, g, i, j, rfl⟩ := list9 hl
  simp only [List.mem_toArray, List.mem_cons, List.not_mem_nil, or_false, forall_eq_or_imp, forall_eq, FieldQ, c_int, c_ints, List.drop_zero, List.drop_succ_cons, List.take_succ_cons, List.take_zero, forall_const, true_and, and_true, reduceCtorEq, Nat.reduceEqDiff, false_implies] at hf
  obtain ⟨⟨x1, w1, e1⟩, ⟨x2, w2, e2⟩, ⟨x3, w3, e3⟩, ⟨x4, e4, w4⟩, ⟨x5, w5, e5⟩, ⟨x6, w6, e6⟩, ⟨x7, w7, e7⟩, ⟨x8, e8, w8⟩, ⟨x9, e9, w9⟩⟩ := hf
  simp only [List.cons.injEq, and_true] at e1 e2 e3 e4 e5 e6 e7 e8 e9
  subst e1 e2 e3 e4 e5 e6 e7 e8 e9
  exact ⟨⟨x1, x2, x3, x4, x5, x6, x7, x8, x9⟩, rfl, w4, w8, w9, wf_i64' w1, wf_i64' w2, wf_i64' w3, wf_i64' w5, wf_i64' w6, wf_i64' w7⟩

theorem opens_graph (w : World) : Opens Try.prog w 24 fun cs => ∃ g : GraphV, cs = [.slice g.base g.l.length g.cap, .int .i64 g.out] ∧ g.raw w := by
  have hns := opens_slice (P := Try.prog) (w := w) (k := 9) Try.underlying22 (by kernel_rfl) (opens_node w)
  have h := opens_struct (P := Try.prog) (w := w) (k := 2) (Q := fun f cs => (f.type = 3 → ∃ i, (Lit.int .i64 i).wf = true ∧ cs = [.int .i64 i]) ∧ (f.type = 22 → SliceQ w 9 (fun cs => ∃ n : NodeV, cs = n.cells ∧ n.raw w) cs)) Try.underlying24 (by kernel_rfl) (by
    intro f hf
    simp only [List.mem_toArray, List.mem_cons, List.not_mem_nil, or_false] at hf
    rcases hf with rfl | rfl
    · exact Opens.mono hns fun cs hc => ⟨fun h => (by cases h), fun _ => hc⟩
    · exact Opens.mono (opens_int Try.underlying3) fun cs hc => ⟨fun _ => hc, fun h => (by cases h)⟩)
  refine Opens.mono h ?_
  rintro cs ⟨hl, hf⟩
  obtain ⟨a, b, rfl⟩ := list2 hl
  have c_nodes : Try.prog.cellsOf 22 = 1 := by kernel_rfl
  simp only [List.mem_toArray, List.mem_cons, List.not_mem_nil, or_false, forall_eq_or_imp, forall_eq, c_int, c_nodes, List.drop_zero, List.drop_succ_cons, List.take_succ_cons, List.take_zero, forall_const, true_and, and_true, reduceCtorEq, Nat.reduceEqDiff, false_implies] at hf
  obtain ⟨⟨base, cap, xs, e1, hr, hx, _⟩, x2, w2, e2⟩ := hf
  obtain ⟨l, rfl, hall⟩ := list_map_of (f := NodeV.cells) (p := fun n => n.raw w) fun r hr => by obtain ⟨n, hn, hn'⟩ := (hx r hr).2; exact ⟨n, hn', hn⟩
  simp only [List.cons.injEq, and_true] at e1 e2
  subst e1 e2
  exact ⟨⟨base, cap, l, x2⟩, by simp, hr, hall, wf_i64' w2⟩
theorem lawChecks_any (w : World) (g : GraphV) (hg : g.raw w) : Calls Try.prog 3 #[g.val] w fun e w' => e = .returned (.bool true) ∧ Ext w w' := by
  by_cases er : (check g).1 = 0
  · refine calls_of tab tabOk Try.func3 rfl rfl rfl [] (fun _ => ⟨none, 0⟩) [.agg [.c (.slice g.base g.l.length g.cap), .c (.int .i64 g.out)]] [] (baseA w) 0 rfl rfl (by show 1 ≤ _; decide) (abs_base w) ?_
    (repeat' ((conv => whnf) <;> first | (show callK _ 15 _ _ _ _ _; (refine call_pure (f := 15) Try.call15 (.bool true) (fun ρ w' hw => fixed_any w') ?_)) | (show callK _ 16 _ _ _ _ _; ((refine call_bool (f := 16) Try.call16 _ (fun ρ w' hw => few_any w' g (holds_of_abs hw fun R h => hg.later h)) ?_ ?_ <;> intro hf))) | (show callK _ 17 _ _ _ _ _; (refine call_check (f := 17) (check g) Try.call17 (fun ρ w' hw => check_any w' g (holds_of_abs hw fun R h => (raw_ok hg hf).later h)) (fun h => absurd er h) (fun _ sv hm hs => ?_))) | (show callK _ 18 _ _ _ _ _; (refine call_check (f := 18) (check g) Try.call18 (fun ρ w' hw => refCheck_any w' g (holds_of_abs hw fun R h => (raw_ok hg hf).later h.1)) (fun h => absurd er h) (fun _ tv hm2 hs2 => ?_))) | (show @cmpK _ _ _; (refine cmp_yes rfl ?_)) | (show callK _ 19 _ _ _ _ _; (refine call_pure (f := 19) Try.call19 (.bool true) (fun ρ w' hw => sameShapes_any w' sv tv (holds_of_abs hw fun R h => shapesD_ok er hm hs h.1.2) (holds_of_abs hw fun R h => shapesD_ok er hm2 hs2 h.2) (hm.trans hm2.symm)) ?_)) | (show Wp _ _ _ _ _ _ _; (refine Wp.go tabOk rfl ?_)) | (show @cmpK _ _ _; (first | refine cmp_yes (by omega) ?_ | refine cmp_no (by omega) ?_ | (refine cmp_both ?_ ?_ <;> intro _))) | (show wrapK _ _ _; (refine wrap_i64 (by omega) (by omega) ?_)) | (show leK _ _ _; (refine le_of (by first | exact Nat.le_refl _ | omega) ?_)) | (show roomK _ _ _; (refine room_of (by first | omega | (dsimp only; omega)) ?_)) | (show ltK _ _ _; (refine lt_of (by omega) ?_)) | (show _ ∧ _; (refine ⟨?_, ?_⟩)) | (show keepK _ _ _ _ _; (refine keep_of (by first | exact List.Sublist.refl _ | exact List.Sublist.cons _ (List.Sublist.refl _) | exact List.Sublist.cons _ (List.Sublist.cons _ (List.Sublist.refl _)) | exact List.Sublist.cons _ (List.Sublist.cons _ (List.Sublist.cons _ (List.Sublist.refl _)))) (by first | exact (fun _ _ h => h) | exact (fun _ _ h => h.1) | exact (fun _ _ h => h.1.1)) ?_)) | (show ownK _ _ _ _ _; (refine own_keep ?_))))
    all_goals (conv => whnf)
    · exact ends_bool (B := ⟨w, []⟩) (S := ((baseA w).and ((shapesD sv).past w.heap.size)).and ((shapesD tv).past w.heap.size)) (fun R w' h => h.1.1) rfl rfl
    · exact ends_bool (fun R w' h => h) rfl rfl
  · refine calls_of tab tabOk Try.func3 rfl rfl rfl [] (fun _ => ⟨none, 0⟩) [.agg [.c (.slice g.base g.l.length g.cap), .c (.int .i64 g.out)]] [] (baseA w) 0 rfl rfl (by show 1 ≤ _; decide) (abs_base w) ?_
    (repeat' ((conv => whnf) <;> first | (show callK _ 15 _ _ _ _ _; (refine call_pure (f := 15) Try.call15 (.bool true) (fun ρ w' hw => fixed_any w') ?_)) | (show callK _ 16 _ _ _ _ _; ((refine call_bool (f := 16) Try.call16 _ (fun ρ w' hw => few_any w' g (holds_of_abs hw fun R h => hg.later h)) ?_ ?_ <;> intro hf))) | (show callK _ 17 _ _ _ _ _; (refine call_check (f := 17) (check g) Try.call17 (fun ρ w' hw => check_any w' g (holds_of_abs hw fun R h => (raw_ok hg hf).later h)) (fun _ => ?_) (fun h => absurd h er))) | (show callK _ 18 _ _ _ _ _; (refine call_check (f := 18) (check g) Try.call18 (fun ρ w' hw => refCheck_any w' g (holds_of_abs hw fun R h => (raw_ok hg hf).later h)) (fun _ => ?_) (fun h => absurd h er))) | (show @cmpK _ _ _; (refine cmp_yes rfl ?_)) | (show callK _ 19 _ _ _ _ _; (refine call_pure (f := 19) Try.call19 (.bool true) (fun ρ w' hw => sameShapes_any w' ⟨none, 0, []⟩ ⟨none, 0, []⟩ ⟨.inl rfl, by simp, by simp⟩ ⟨.inl rfl, by simp, by simp⟩ rfl) ?_)) | (show Wp _ _ _ _ _ _ _; (refine Wp.go tabOk rfl ?_)) | (show @cmpK _ _ _; (first | refine cmp_yes (by omega) ?_ | refine cmp_no (by omega) ?_ | (refine cmp_both ?_ ?_ <;> intro _))) | (show wrapK _ _ _; (refine wrap_i64 (by omega) (by omega) ?_)) | (show leK _ _ _; (refine le_of (by first | exact Nat.le_refl _ | omega) ?_)) | (show roomK _ _ _; (refine room_of (by first | omega | (dsimp only; omega)) ?_)) | (show ltK _ _ _; (refine lt_of (by omega) ?_)) | (show _ ∧ _; (refine ⟨?_, ?_⟩)) | (show keepK _ _ _ _ _; (refine keep_of (by first | exact List.Sublist.refl _ | exact List.Sublist.cons _ (List.Sublist.refl _) | exact List.Sublist.cons _ (List.Sublist.cons _ (List.Sublist.refl _)) | exact List.Sublist.cons _ (List.Sublist.cons _ (List.Sublist.cons _ (List.Sublist.refl _)))) (by first | exact (fun _ _ h => h) | exact (fun _ _ h => h.1) | exact (fun _ _ h => h.1.1)) ?_)) | (show ownK _ _ _ _ _; (refine own_keep ?_))))
    all_goals exact ends_bool (fun R w' h => h) rfl rfl
set_option maxRecDepth 100000 in
theorem checks_lifted (os : Os) (started : os.Started) (H : Type) (enc : TypeId × Value → H) :
    ReturnsInHanded {} Try.checked os 3 .any (Rows.graphChecksSpec.pre6 enc Try.prog Try.f3 Rows.graphChecksRow.domain false) (Rows.graphChecksSpec.post enc Try.prog Try.f3 false true false false) := by
  refine returnsInHanded_of_change (C := Try.checked) own started (by kernel_rfl) Try.func3
    (ChangeSpec.witness6 (enc := enc) (C := Try.checked) false ⟨#[], #[.agg #[.slice none 0 0, .int .i64 0]], []⟩ 8 (by kernel_rfl) (by kernel_rfl) (by kernel_rfl) (by kernel_rfl)) ?_
  intro W base args ds gs before hval0 hW hcnd _
  have hval : ∀ (j : Nat) t v, Try.f3.params[j]? = some t → args[j]? = some v → Value.okWide Try.prog W .any base t v := hval0
  have hW' := hW
  obtain ⟨p, q, hA0, hV, rfl, hfz, hnd⟩ := hW
  have hA : DataW.TrodAll enc Try.prog W 0 (fun _ => true) true Try.f3.params.toList args.toList ds p := hA0
  rw [Try.params3] at hA hval
  obtain ⟨v0, d0, rfl, rfl, h0⟩ := trodAll_one hA
  obtain ⟨g, hv0, hg⟩ := opens_of (opens_graph W) h0
  obtain rfl : v0 = g.val := cells_agg Try.underlying24 (hval 0 24 v0 rfl rfl) hv0
  exact law_contract laidOut (by kernel_rfl) rfl rfl Try.underlying4 rfl hW' (lawChecks_any W g hg)
/-- GraphChecks: for every graph the law returns true, and the graph reads as before; no condition. -/
theorem graphChecks_holds : Rows.GraphChecksSaid :=
  OpenClaim.holds_of_wide 3 Try.f3 rfl rfl rfl rfl rfl rfl rfl ⟨rfl, rfl, rfl, rfl, rfl⟩ rfl rfl rfl rfl rfl (by kernel_rfl) Try.func3 (by kernel_rfl)
    (of_decide_eq_true (by kernel_rfl)) (by unfold Func.isWrapper; first | (rw [if_pos (by decide +kernel)]; kernel_rfl) | (rw [if_neg (by decide +kernel)]; exact ⟨rfl, rfl⟩))
    (fun os started H enc _ => checks_lifted os started H enc)
end Go.Proofs.Ytajbngkcgbehlaa
