import Derived.Test.YtdmkdogakbipbaaKLinearMade5
/- JJ -/
namespace Go.Proofs.Ytdmkdogakbipbaa
open Go.SX Go.RowKit
set_option maxRecDepth 20000 in
set_option maxHeartbeats 8000000 in
theorem mat_pool (w : World) (n : NodeV) (t : IntsV) (ht : t.ok w) (hno : n.ok w) (hk : n.kind = 5) (size cnt : Nat) (i0 i1 i2 : Int) (htx : t.xs = [i0, i1, i2]) (hsz : entries t.xs = size) (hs64 : size ≤ 64) (b0 : 1 ≤ i0 ∧ i0 ≤ 64) (b1 : n.size ≤ i1 ∧ i1 ≤ 64) (b2 : n.size ≤ i2 ∧ i2 ≤ 64) (bz : 1 ≤ n.size) (m1 : i1 % n.size = 0) (m2 : i2 % n.size = 0) (hcnt : (cnt : Int) = i0 * (i1 / n.size) * (i2 / n.size)) (hc64 : cnt ≤ 64) (hat : ∀ o : Nat, o < cnt → ∀ s ∈ poolT n.size i1 i2 o, 0 ≤ s.2 ∧ s.2 < size) : Calls Try.prog 66 #[n.valA, t.val] w (MatPost w n t.xs cnt) := by
  obtain ⟨ut, hut⟩ := ht.base (by rw [htx]; simp)
  have hur : ∀ (R : Nat → Prop) w', (baseA w).holds R w' → RowsI w' (some ut) 1 (ints t.xs) := fun R w' h => by rw [← hut]; exact rows_base h ht.rows
  have g0 : t.xs.getD 0 0 = i0 := by rw [htx]; rfl
  have g1 : t.xs.getD 1 0 = i1 := by rw [htx]; rfl
  have g2 : t.xs.getD 2 0 = i2 := by rw [htx]; rfl
  have hz0 : 0 ≤ n.size := Int.le_trans (by decide) bz
  have hW := div_pos1 (x := i2) (y := n.size) bz b2.1
  have hH := div_pos1 (x := i1) (y := n.size) bz b1.1
  have hW2 := Int.ediv_le_self n.size (show 0 ≤ i2 from Int.le_trans hz0 b2.1)
  have hH2 := Int.ediv_le_self n.size (show 0 ≤ i1 from Int.le_trans hz0 b1.1)
  have hTl : ∀ o : Nat, ((poolT n.size i1 i2 o).length : Int) = n.size * n.size := fun o => by
    have : 0 ≤ n.size * n.size := Int.mul_nonneg hz0 hz0
    simp only [poolT, List.length_map, List.length_range]; exact Int.toNat_of_nonneg this
  generalize hWd : i2 / n.size = W at *
  generalize hHd : i1 / n.size = H at *
  have hW0 : 0 ≤ W := Int.le_trans (by decide) hW
  have hH0 : 0 ≤ H := Int.le_trans (by decide) hH
  have hi00 : 0 ≤ i0 := Int.le_trans (by decide) b0.1
  clear m1 m2
  have hl3 : t.xs.length = 3 := by rw [htx]; rfl
  have hd1 : t.xs.getD 1 0 / n.size = H := by rw [g1, hHd]
  have hd2 : t.xs.getD 2 0 / n.size = W := by rw [g2, hWd]
  refine calls_of tab tabOk Try.func66 rfl rfl rfl [] (fun _ => ⟨none, 0⟩) [.agg [.c (.int .i64 n.kind), .c (.int .i64 n.a), .c (.int .i64 n.b), .c n.shape.val, .c (.int .i64 n.lo), .c (.int .i64 n.hi), .c (.int .i64 n.size), .c n.data.val, .c n.bias.val], .c t.val] [] (baseA w) 0 rfl rfl (by show 2 ≤ _; decide) (abs_base w) ?_
  (repeat' ((conv => whnf) <;> first | (show callK _ 34 _ _ _ _ _; refine call_pure (f := 34) Try.call34 (.int .i64 (entries t.xs)) (fun ρ w' hw => refEntries_any w' t.base t.cap t.xs (holds_of_abs hw fun R h => rows_base h ht.rows)) ?_) | (show idxK _ _ _ _ _; refine idx_of _ 1 hut rfl (by omega) ?_) | (show roK _ _ _; refine ro_int hur (j := 1) (by omega) ?_) | (show idxK _ _ _ _ _; refine idx_of _ 2 hut rfl (by omega) ?_) | (show roK _ _ _; refine ro_int hur (j := 2) (by omega) ?_) | (show idxK _ _ _ _ _; refine idx_of _ 0 hut rfl (by omega) ?_) | (show roK _ _ _; refine ro_int hur (j := 0) (by omega) ?_) | (show divK _ _ _ _; (first | refine div_to hd1 (by omega) (by omega) (by omega) ?_ | refine div_to hd2 (by omega) (by omega) (by omega) ?_)) | (show drawK _ 28 _ _ _ _ _ _; refine draw_tree tabOk mixed [25] _ dtJH0 (by kernel_rfl) (by kernel_rfl) (by kernel_rfl) (List.Sublist.refl _) ?_) | (show drawK _ 30 _ _ _ _ _ _; refine draw_tree tabOk mixed [] _ dtJH1 (by kernel_rfl) (by kernel_rfl) (by kernel_rfl) (List.Sublist.refl _) ?_) | (show drawK _ 52 _ _ _ _ _ _; refine draw_tree tabOk mixed [42] _ dtJH2 (by kernel_rfl) (by kernel_rfl) (by kernel_rfl) (List.Sublist.refl _) ?_) | (show drawK _ _ _ _ _ _ _ _; refine draw_quiet tabOk mixed (by kernel_rfl) ?_) | (show Wp _ _ _ _ _ _ _; refine Wp.go tabOk rfl ?_) | (show @cmpK _ _ _; (first | refine cmpY ?_ | refine cmpN ?_ | (refine cmp_both ?_ ?_ <;> intro _))) | (show wrapK _ _ _; refine wrapA ?_) | (show leK _ _ _; refine leA ?_) | (show roomK _ _ _; refine roomA ?_) | (show ltK _ _ _; refine ltA ?_) | (show _ ∧ _; refine ⟨?_, ?_⟩) | (show keepK _ _ _ _ _; refine keepA ?_) | refine own_keep ?_ | refine ap_old ?_))
  refine Wp.loop (σ := Int × Nat × List IntsV) 2 (fun ⟨c, m, us⟩ => [(1, .c t.val), (2, .lp 0 0 0 0), (6, .c (.int .i64 size)), (9, .c (.int .i64 H)), (10, .c (.int .i64 W)), (7, .os 1 m), (11, .c (.int .i64 c))]) (fun ⟨_, _, us⟩ => [(1, .rows (shRows us) 1 33), (0, .box [.c (.int .i64 n.kind), .c (.int .i64 n.a), .c (.int .i64 n.b), .c n.shape.val, .c (.int .i64 n.lo), .c (.int .i64 n.hi), .c (.int .i64 n.size), .c n.data.val, .c n.bias.val] 38)]) (fun ⟨_, _, us⟩ => (baseA w).and (eachA w.heap.size us))
    (fun ⟨c, m, us⟩ => (0 ≤ c ∧ c ≤ i0) ∧ Sofar3 n t.xs us m ∧ (m : Int) = c * H * W) (fun s => (i0 - s.1).toNat) (0, 0, []) [(1, none)] (by decide) (fun s => ⟨rfl, rfl⟩) ⟨⟨Int.le_refl _, hi00⟩, ⟨rfl, fun u hu => by simp at hu⟩, by simp⟩ ⟨rfl, ⟨rfl, rfl, ?_, rfl, rfl, rfl, rfl, trivial⟩, ⟨rfl, (by repeat (first | exact List.mem_cons_self | apply List.mem_cons_of_mem)), trivial⟩, fun R w' h => ⟨h, eachA_nil _ R w'⟩⟩ ?_
  · rw [hsz]; rfl
  rintro ⟨c, m, us⟩ ⟨⟨hc0, hc1⟩, hso, hmc⟩
  by_cases hci : c < i0
  · (repeat' ((conv => whnf) <;> first | (show idxK _ _ _ _ _; refine idx_of _ 0 hut rfl (by omega) ?_) | (show roK _ _ _; refine ro_int (fun R w' h => hur R w' h.1) (j := 0) (by omega) ?_) | (show drawK _ 28 _ _ _ _ _ _; refine draw_tree tabOk mixed [25] _ dtJH0 (by kernel_rfl) (by kernel_rfl) (by kernel_rfl) (List.Sublist.refl _) ?_) | (show drawK _ 30 _ _ _ _ _ _; refine draw_tree tabOk mixed [] _ dtJH1 (by kernel_rfl) (by kernel_rfl) (by kernel_rfl) (List.Sublist.refl _) ?_) | (show drawK _ 52 _ _ _ _ _ _; refine draw_tree tabOk mixed [42] _ dtJH2 (by kernel_rfl) (by kernel_rfl) (by kernel_rfl) (List.Sublist.refl _) ?_) | (show drawK _ _ _ _ _ _ _ _; refine draw_quiet tabOk mixed (by kernel_rfl) ?_) | (show Wp _ _ _ _ _ _ _; refine Wp.go tabOk rfl ?_) | (show @cmpK _ _ _; (first | refine cmpY ?_ | refine cmpN ?_ | (refine cmp_both ?_ ?_ <;> intro _))) | (show wrapK _ _ _; refine wrapA ?_) | (show leK _ _ _; refine leA ?_) | (show roomK _ _ _; refine roomA ?_) | (show ltK _ _ _; refine ltA ?_) | (show _ ∧ _; refine ⟨?_, ?_⟩) | (show keepK _ _ _ _ _; refine keepA ?_) | refine own_keep ?_ | refine ap_old ?_))
    refine Wp.loop (σ := Int × Nat × List IntsV) 3 (fun ⟨y, m, us⟩ => [(1, .c t.val), (2, .lp 0 0 0 0), (6, .c (.int .i64 size)), (9, .c (.int .i64 H)), (10, .c (.int .i64 W)), (7, .os 2 m), (11, .c (.int .i64 c)), (12, .c (.int .i64 y))]) (fun ⟨_, _, us⟩ => [(2, .rows (shRows us) 1 33), (0, .box [.c (.int .i64 n.kind), .c (.int .i64 n.a), .c (.int .i64 n.b), .c n.shape.val, .c (.int .i64 n.lo), .c (.int .i64 n.hi), .c (.int .i64 n.size), .c n.data.val, .c n.bias.val] 38)]) (fun ⟨_, _, us⟩ => (baseA w).and (eachA w.heap.size us))
      (fun ⟨y, m, us⟩ => (0 ≤ y ∧ y ≤ H) ∧ Sofar3 n t.xs us m ∧ (m : Int) = (c * H + y) * W) (fun s => (H - s.1).toNat) (0, m, us) [(2, some 1)] (by decide) (fun s => ⟨rfl, rfl⟩) ⟨⟨Int.le_refl _, hH0⟩, hso, by rw [hmc, Int.add_zero]⟩ ⟨rfl, ⟨rfl, rfl, rfl, rfl, rfl, rfl, rfl, rfl, trivial⟩, ⟨(by repeat (first | exact List.mem_cons_self | apply List.mem_cons_of_mem)), (by repeat (first | exact List.mem_cons_self | apply List.mem_cons_of_mem)), trivial⟩, fun _ _ h => h⟩ ?_
    clear hmc hso
    have hcB : 0 ≤ c ∧ c ≤ 64 := ⟨hc0, Int.le_trans hc1 b0.2⟩
    rintro ⟨y, m, us⟩ ⟨⟨hy0, hy1⟩, hso, hmy⟩
    by_cases hyi : y < H
    · (repeat' ((conv => whnf) <;> first | (show drawK _ 28 _ _ _ _ _ _; refine draw_tree tabOk mixed [25] _ dtJH0 (by kernel_rfl) (by kernel_rfl) (by kernel_rfl) (List.Sublist.refl _) ?_) | (show drawK _ 30 _ _ _ _ _ _; refine draw_tree tabOk mixed [] _ dtJH1 (by kernel_rfl) (by kernel_rfl) (by kernel_rfl) (List.Sublist.refl _) ?_) | (show drawK _ 52 _ _ _ _ _ _; refine draw_tree tabOk mixed [42] _ dtJH2 (by kernel_rfl) (by kernel_rfl) (by kernel_rfl) (List.Sublist.refl _) ?_) | (show drawK _ _ _ _ _ _ _ _; refine draw_quiet tabOk mixed (by kernel_rfl) ?_) | (show Wp _ _ _ _ _ _ _; refine Wp.go tabOk rfl ?_) | (show @cmpK _ _ _; (first | refine cmpY ?_ | refine cmpN ?_ | (refine cmp_both ?_ ?_ <;> intro _))) | (show wrapK _ _ _; refine wrapA ?_) | (show leK _ _ _; refine leA ?_) | (show roomK _ _ _; refine roomA ?_) | (show ltK _ _ _; refine ltA ?_) | (show _ ∧ _; refine ⟨?_, ?_⟩) | (show keepK _ _ _ _ _; refine keepA ?_) | refine own_keep ?_ | refine ap_old ?_))
      refine Wp.loop (σ := Int × Nat × List IntsV) 4 (fun ⟨x, m, us⟩ => [(1, .c t.val), (2, .lp 0 0 0 0), (6, .c (.int .i64 size)), (9, .c (.int .i64 H)), (10, .c (.int .i64 W)), (7, .os 3 m), (11, .c (.int .i64 c)), (12, .c (.int .i64 y)), (13, .c (.int .i64 x))]) (fun ⟨_, _, us⟩ => [(3, .rows (shRows us) 1 33), (0, .box [.c (.int .i64 n.kind), .c (.int .i64 n.a), .c (.int .i64 n.b), .c n.shape.val, .c (.int .i64 n.lo), .c (.int .i64 n.hi), .c (.int .i64 n.size), .c n.data.val, .c n.bias.val] 38)]) (fun ⟨_, _, us⟩ => (baseA w).and (eachA w.heap.size us))
        (fun ⟨x, m, us⟩ => (0 ≤ x ∧ x ≤ W) ∧ Sofar3 n t.xs us m ∧ (m : Int) = (c * H + y) * W + x) (fun s => (W - s.1).toNat) (0, m, us) [(3, some 2)] (by decide) (fun s => ⟨rfl, rfl⟩) ⟨⟨Int.le_refl _, hW0⟩, hso, by rw [hmy, Int.add_zero]⟩ ⟨rfl, ⟨rfl, rfl, rfl, rfl, rfl, rfl, rfl, rfl, rfl, trivial⟩, ⟨(by repeat (first | exact List.mem_cons_self | apply List.mem_cons_of_mem)), (by repeat (first | exact List.mem_cons_self | apply List.mem_cons_of_mem)), trivial⟩, fun _ _ h => h⟩ ?_
      clear hmy hso
      have hyB : 0 ≤ y ∧ y ≤ 64 := ⟨hy0, Int.le_trans hy1 (Int.le_trans hH2 b1.2)⟩
      rintro ⟨x, m, us⟩ ⟨⟨hx0, hx1⟩, hso, hmx⟩
      by_cases hxi : x < W
      · (repeat' ((conv => whnf) <;> first | (show makeK _ _ _ _; (refine make_of size rfl rfl (by show 8 * _ ≤ _; omega) (by omega) ?_)) | (show drawK _ 28 _ _ _ _ _ _; refine draw_tree tabOk mixed [25] _ dtJH0 (by kernel_rfl) (by kernel_rfl) (by kernel_rfl) (List.Sublist.refl _) ?_) | (show drawK _ 30 _ _ _ _ _ _; refine draw_tree tabOk mixed [] _ dtJH1 (by kernel_rfl) (by kernel_rfl) (by kernel_rfl) (List.Sublist.refl _) ?_) | (show drawK _ 52 _ _ _ _ _ _; refine draw_tree tabOk mixed [42] _ dtJH2 (by kernel_rfl) (by kernel_rfl) (by kernel_rfl) (List.Sublist.refl _) ?_) | (show drawK _ _ _ _ _ _ _ _; refine draw_quiet tabOk mixed (by kernel_rfl) ?_) | (show Wp _ _ _ _ _ _ _; refine Wp.go tabOk rfl ?_) | (show @cmpK _ _ _; (first | refine cmpY ?_ | refine cmpN ?_ | (refine cmp_both ?_ ?_ <;> intro _))) | (show wrapK _ _ _; refine wrapA ?_) | (show leK _ _ _; refine leA ?_) | (show roomK _ _ _; refine roomA ?_) | (show ltK _ _ _; refine ltA ?_) | (show _ ∧ _; refine ⟨?_, ?_⟩) | (show keepK _ _ _ _ _; refine keepA ?_) | refine own_keep ?_ | refine ap_old ?_))
        have hmlt : m < cnt := by have := pos_lt hmx hcnt ⟨hx0, hxi⟩ ⟨hy0, hyi⟩ hci; omega
        have hatm := hat m hmlt
        have hTe : ∃ T, T = poolT n.size i1 i2 m := ⟨_, rfl⟩
        obtain ⟨T, hT⟩ := hTe
        have hTz := hTl m
        have hTat : ∀ (p : Nat) (i j : Int) (hp : p < T.length), (p : Int) = i * n.size + j → 0 ≤ j → j < n.size → T[p] = (1, (c * i1 + y * n.size + i) * i2 + x * n.size + j) := fun p i j hp he h0 h1 => poolT_at hT hWd hHd hmx ⟨hx0, hxi⟩ ⟨hy0, hyi⟩ hp he ⟨h0, h1⟩
        have hTb := poolT_bd hT
        have hxB : 0 ≤ x ∧ x ≤ 64 := ⟨hx0, Int.le_trans hx1 (Int.le_trans hW2 b2.2)⟩
        have hzB : 0 ≤ n.size ∧ n.size ≤ 64 := ⟨hz0, Int.le_trans b1.1 b1.2⟩
        have hB1 : 0 ≤ i1 ∧ i1 ≤ 64 := ⟨Int.le_trans hz0 b1.1, b1.2⟩
        have hB2 : 0 ≤ i2 ∧ i2 ≤ 64 := ⟨Int.le_trans hz0 b2.1, b2.2⟩
        rw [← hT] at hatm hTz
        refine Wp.loop (σ := Int × Nat) 5 (fun ⟨i, _⟩ => [(1, .c t.val), (2, .lp 0 0 0 0), (6, .c (.int .i64 size)), (9, .c (.int .i64 H)), (10, .c (.int .i64 W)), (7, .os 3 m), (11, .c (.int .i64 c)), (12, .c (.int .i64 y)), (13, .c (.int .i64 x)), (14, .os 4 size), (15, .c (.int .i64 i))]) (fun ⟨_, p⟩ => [(4, .rows (ints (rowP T size p)) 1 3), (3, .rows (shRows us) 1 33), (0, .box [.c (.int .i64 n.kind), .c (.int .i64 n.a), .c (.int .i64 n.b), .c n.shape.val, .c (.int .i64 n.lo), .c (.int .i64 n.hi), .c (.int .i64 n.size), .c n.data.val, .c n.bias.val] 38)]) (fun _ => (baseA w).and (eachA w.heap.size us))
          (fun ⟨i, p⟩ => (0 ≤ i ∧ i ≤ n.size) ∧ (p : Int) = i * n.size) (fun s => (n.size - s.1).toNat) (0, 0) [] (by decide) (fun s => ⟨rfl, rfl⟩) ⟨⟨Int.le_refl _, hz0⟩, (Int.zero_mul _).symm⟩ ⟨rfl, ⟨rfl, rfl, rfl, rfl, rfl, rfl, rfl, rfl, rfl, rfl, rfl, trivial⟩, ⟨?_, (by repeat (first | exact List.mem_cons_self | apply List.mem_cons_of_mem)), (by repeat (first | exact List.mem_cons_self | apply List.mem_cons_of_mem)), trivial⟩, fun _ _ h => h⟩ ?_
        · have : ints (rowP T size 0) = List.replicate size [Value.int .i64 0] := by simp [ints, rowP]
          show (4, Ent.rows (ints (rowP T size 0)) 1 3) ∈ _
          rw [this]
          exact (by repeat (first | exact List.mem_cons_self | apply List.mem_cons_of_mem))
        rintro ⟨i, p⟩ ⟨⟨hi0, hi1⟩, hpi⟩
        by_cases hii : i < n.size
        · clear hcnt hmx hmlt hso hTl hat hT hTb hsz hno ht hW hH hW2 hH2 hd1 hd2 hWd hHd b1 b2 b0 hc64
          (repeat' ((conv => whnf) <;> first | (show drawK _ 28 _ _ _ _ _ _; refine draw_tree tabOk mixed [25] _ dtJH0 (by kernel_rfl) (by kernel_rfl) (by kernel_rfl) (List.Sublist.refl _) ?_) | (show drawK _ 30 _ _ _ _ _ _; refine draw_tree tabOk mixed [] _ dtJH1 (by kernel_rfl) (by kernel_rfl) (by kernel_rfl) (List.Sublist.refl _) ?_) | (show drawK _ 52 _ _ _ _ _ _; refine draw_tree tabOk mixed [42] _ dtJH2 (by kernel_rfl) (by kernel_rfl) (by kernel_rfl) (List.Sublist.refl _) ?_) | (show drawK _ _ _ _ _ _ _ _; refine draw_quiet tabOk mixed (by kernel_rfl) ?_) | (show Wp _ _ _ _ _ _ _; refine Wp.go tabOk rfl ?_) | (show @cmpK _ _ _; (first | refine cmpY ?_ | refine cmpN ?_ | (refine cmp_both ?_ ?_ <;> intro _))) | (show wrapK _ _ _; refine wrapA ?_) | (show leK _ _ _; refine leA ?_) | (show roomK _ _ _; refine roomA ?_) | (show ltK _ _ _; refine ltA ?_) | (show _ ∧ _; refine ⟨?_, ?_⟩) | (show keepK _ _ _ _ _; refine keepA ?_) | refine own_keep ?_ | refine ap_old ?_))
          refine Wp.loop (σ := Int × Nat) 5 (fun ⟨j, _⟩ => [(1, .c t.val), (2, .lp 0 0 0 0), (6, .c (.int .i64 size)), (9, .c (.int .i64 H)), (10, .c (.int .i64 W)), (7, .os 3 m), (11, .c (.int .i64 c)), (12, .c (.int .i64 y)), (13, .c (.int .i64 x)), (14, .os 4 size), (15, .c (.int .i64 i)), (16, .c (.int .i64 j))]) (fun ⟨_, p⟩ => [(4, .rows (ints (rowP T size p)) 1 3), (3, .rows (shRows us) 1 33), (0, .box [.c (.int .i64 n.kind), .c (.int .i64 n.a), .c (.int .i64 n.b), .c n.shape.val, .c (.int .i64 n.lo), .c (.int .i64 n.hi), .c (.int .i64 n.size), .c n.data.val, .c n.bias.val] 38)]) (fun _ => (baseA w).and (eachA w.heap.size us))
            (fun ⟨j, p⟩ => (0 ≤ j ∧ j ≤ n.size) ∧ (p : Int) = i * n.size + j) (fun s => (n.size - s.1).toNat) (0, p) [] (by decide) (fun s => ⟨rfl, rfl⟩) ⟨⟨Int.le_refl _, hz0⟩, by rw [hpi, Int.add_zero]⟩ ⟨rfl, ⟨rfl, rfl, rfl, rfl, rfl, rfl, rfl, rfl, rfl, rfl, rfl, rfl, trivial⟩, ⟨(by repeat (first | exact List.mem_cons_self | apply List.mem_cons_of_mem)), (by repeat (first | exact List.mem_cons_self | apply List.mem_cons_of_mem)), (by repeat (first | exact List.mem_cons_self | apply List.mem_cons_of_mem)), trivial⟩, fun _ _ h => h⟩ ?_
          rintro ⟨j, p⟩ ⟨⟨hj0, hj1⟩, hpj⟩
          by_cases hji : j < n.size
          · have hpT : p < T.length := by have := sq_lt hTz hpj hii ⟨hj0, hji⟩; omega
            have hTp := hTat p i j hpT hpj hj0 hji
            have hb := hatm _ (List.getElem_mem hpT)
            have hsu := rowP_succ (size := size) hpT
            rw [hTp] at hb hsu
            have E := ix_bd (c := c) (i1 := i1) (y := y) (z := n.size) (i := i) (i2 := i2) (x := x) hcB hB1 hyB hzB ⟨hi0, Int.le_trans hi1 hzB.2⟩ hB2 hxB
            have e1 := E.1
            have e2 := E.2.1
            have e3 := E.2.2.1
            have e4 := E.2.2.2
            clear E
            have hb2 : 0 ≤ (c * i1 + y * n.size + i) * i2 + x * n.size + j ∧ (c * i1 + y * n.size + i) * i2 + x * n.size + j < size := hb
            have hex : ∃ r : Nat, (c * i1 + y * n.size + i) * i2 + x * n.size + j = r := ⟨_, (Int.toNat_of_nonneg hb2.1).symm⟩
            obtain ⟨r, hr⟩ := hex
            rw [hr] at hsu hb2
            have hrl : r < size := Int.ofNat_lt.1 hb2.2
            clear hTat hatm hTp hTz hpi hb hb2
            (repeat' ((conv => whnf) <;> first | (show idxK _ _ _ _ _; (first | refine idx_of _ 1 hut rfl (by omega) ?_ | refine idx_of _ 2 hut rfl (by omega) ?_)) | (show roK _ _ _; (first | refine ro_intv (fun R w' h => hur R w' h.1) (j := 1) (by omega) g1 ?_ | refine ro_intv (fun R w' h => hur R w' h.1) (j := 2) (by omega) g2 ?_)) | (show idxRowK _ _ _ _ _ _; (refine idxRow_of r hr hrl (by rw [ints_length, rowP_length]; exact Nat.le_refl _) ?_)) | (show rowStoreK _ _ _ _ _; (refine ints_store (by rw [rowP_length]; exact hrl) ?_)) | (show drawK _ 28 _ _ _ _ _ _; refine draw_tree tabOk mixed [25] _ dtJH0 (by kernel_rfl) (by kernel_rfl) (by kernel_rfl) (List.Sublist.refl _) ?_) | (show drawK _ 30 _ _ _ _ _ _; refine draw_tree tabOk mixed [] _ dtJH1 (by kernel_rfl) (by kernel_rfl) (by kernel_rfl) (List.Sublist.refl _) ?_) | (show drawK _ 52 _ _ _ _ _ _; refine draw_tree tabOk mixed [42] _ dtJH2 (by kernel_rfl) (by kernel_rfl) (by kernel_rfl) (List.Sublist.refl _) ?_) | (show drawK _ _ _ _ _ _ _ _; refine draw_quiet tabOk mixed (by kernel_rfl) ?_) | (show Wp _ _ _ _ _ _ _; refine Wp.go tabOk rfl ?_) | (show @cmpK _ _ _; (first | refine cmpY ?_ | refine cmpN ?_ | (refine cmp_both ?_ ?_ <;> intro _))) | (show wrapK _ _ _; refine wrapA ?_) | (show leK _ _ _; refine leA ?_) | (show roomK _ _ _; refine roomA ?_) | (show ltK _ _ _; refine ltA ?_) | (show _ ∧ _; refine ⟨?_, ?_⟩) | (show keepK _ _ _ _ _; refine keepA ?_) | refine own_keep ?_ | refine ap_old ?_))
            all_goals (conv => whnf)
            exact ⟨(j + 1, p + 1), [], ⟨⟨Int.le_add_one hj0, hji⟩, by rw [Int.natCast_add, hpj, Int.add_assoc]; rfl⟩, by simp only; omega, rfl, ⟨rfl, rfl, rfl, rfl, rfl, rfl, rfl, rfl, rfl, rfl, rfl, rfl, trivial⟩, ⟨by
              show (4, Ent.rows (ints (rowP T size (p + 1))) 1 3) ∈ _
              rw [hsu]; exact (by repeat (first | exact List.mem_cons_self | apply List.mem_cons_of_mem)), (by repeat (first | exact List.mem_cons_self | apply List.mem_cons_of_mem)), (by repeat (first | exact List.mem_cons_self | apply List.mem_cons_of_mem)), trivial⟩, fun _ _ h => h⟩
          · have hjz : j = n.size := Int.le_antisymm hj1 (Int.not_lt.1 hji)
            subst hjz
            (repeat' ((conv => whnf) <;> first | (show drawK _ 28 _ _ _ _ _ _; refine draw_tree tabOk mixed [25] _ dtJH0 (by kernel_rfl) (by kernel_rfl) (by kernel_rfl) (List.Sublist.refl _) ?_) | (show drawK _ 30 _ _ _ _ _ _; refine draw_tree tabOk mixed [] _ dtJH1 (by kernel_rfl) (by kernel_rfl) (by kernel_rfl) (List.Sublist.refl _) ?_) | (show drawK _ 52 _ _ _ _ _ _; refine draw_tree tabOk mixed [42] _ dtJH2 (by kernel_rfl) (by kernel_rfl) (by kernel_rfl) (List.Sublist.refl _) ?_) | (show drawK _ _ _ _ _ _ _ _; refine draw_quiet tabOk mixed (by kernel_rfl) ?_) | (show Wp _ _ _ _ _ _ _; refine Wp.go tabOk rfl ?_) | (show @cmpK _ _ _; (first | refine cmpY ?_ | refine cmpN ?_ | (refine cmp_both ?_ ?_ <;> intro _))) | (show wrapK _ _ _; refine wrapA ?_) | (show leK _ _ _; refine leA ?_) | (show roomK _ _ _; refine roomA ?_) | (show ltK _ _ _; refine ltA ?_) | (show _ ∧ _; refine ⟨?_, ?_⟩) | (show keepK _ _ _ _ _; refine keepA ?_) | refine own_keep ?_ | refine ap_old ?_))
            all_goals (conv => whnf)
            exact ⟨(i + 1, p), [], ⟨⟨Int.le_add_one hi0, hii⟩, by rw [hpj, Int.add_mul, Int.one_mul]⟩, by simp only; omega, rfl, ⟨rfl, rfl, rfl, rfl, rfl, rfl, rfl, rfl, rfl, rfl, rfl, trivial⟩, ⟨(by repeat (first | exact List.mem_cons_self | apply List.mem_cons_of_mem)), (by repeat (first | exact List.mem_cons_self | apply List.mem_cons_of_mem)), (by repeat (first | exact List.mem_cons_self | apply List.mem_cons_of_mem)), trivial⟩, fun _ _ h => h⟩
        · have hiz : i = n.size := Int.le_antisymm hi1 (Int.not_lt.1 hii)
          subst hiz
          have hpT : p = T.length := Int.ofNat.inj (hpi.trans hTz.symm)
          refine Wp.freezeN 4 w.heap.size (k := 1) (xs := ints (rowP T size p)) (T := 3) (by repeat (first | exact List.mem_cons_self | apply List.mem_cons_of_mem)) (fun R w' h b hb => (h.1 b hb).1) (fun l1 hl1 => ?_)
          rw [ints_length, rowP_length] at hl1
          have hml : us.length = m := hso.len
          clear hcnt hpi hTz hTat hatm hTl hat
          (repeat' ((conv => whnf) <;> first | (show leK _ _ _; (refine le_of (by rw [shRows_length, hml]; exact Nat.le_refl _) ?_)) | (show roomK _ _ _; (refine room_of (by show (m + 1) * 24 ≤ 140737488355328; omega) ?_)) | (show drawK _ 28 _ _ _ _ _ _; refine draw_tree tabOk mixed [25] _ dtJH0 (by kernel_rfl) (by kernel_rfl) (by kernel_rfl) (List.Sublist.refl _) ?_) | (show drawK _ 30 _ _ _ _ _ _; refine draw_tree tabOk mixed [] _ dtJH1 (by kernel_rfl) (by kernel_rfl) (by kernel_rfl) (List.Sublist.refl _) ?_) | (show drawK _ 52 _ _ _ _ _ _; refine draw_tree tabOk mixed [42] _ dtJH2 (by kernel_rfl) (by kernel_rfl) (by kernel_rfl) (List.Sublist.refl _) ?_) | (show drawK _ _ _ _ _ _ _ _; refine draw_quiet tabOk mixed (by kernel_rfl) ?_) | (show Wp _ _ _ _ _ _ _; refine Wp.go tabOk rfl ?_) | (show @cmpK _ _ _; (first | refine cmpY ?_ | refine cmpN ?_ | (refine cmp_both ?_ ?_ <;> intro _))) | (show wrapK _ _ _; refine wrapA ?_) | (show leK _ _ _; refine leA ?_) | (show roomK _ _ _; refine roomA ?_) | (show ltK _ _ _; refine ltA ?_) | (show _ ∧ _; refine ⟨?_, ?_⟩) | (show keepK _ _ _ _ _; refine keepA ?_) | refine own_keep ?_ | refine ap_old ?_))
          all_goals (conv => whnf)
          exact ⟨(x + 1, m + 1, us ++ [IntsV.mk l1.base l1.cap (rowP T size p)]), [(3, some 6)], ⟨⟨Int.le_add_one hx0, hxi⟩, hso.next ⟨fun v hv => by have := rowP_bd hTb v hv; unfold bd20 at this; exact ⟨by omega, by omega⟩, by rw [rowP_length]; exact hl1, by rw [rowP_length]; omega⟩ (pool_row hk hsz m (hT.trans (by rw [g1, g2])) hpT), by rw [Int.natCast_add, hmx, Int.add_assoc]; rfl⟩, by simp only; omega, rfl, ⟨rfl, rfl, rfl, rfl, rfl, rfl, rfl, rfl, rfl, trivial⟩, ⟨rows_snocM us l1.base l1.cap (rowP T size p) hml.symm (rowP_length _ _ _).symm, (by repeat (first | exact List.mem_cons_self | apply List.mem_cons_of_mem)), trivial⟩, fun R w' h => ⟨h.1.1, eachA_snoc h.1.2 h.2⟩⟩
      · have hxz : x = W := Int.le_antisymm hx1 (Int.not_lt.1 hxi)
        subst hxz
        (repeat' ((conv => whnf) <;> first | (show drawK _ 28 _ _ _ _ _ _; refine draw_tree tabOk mixed [25] _ dtJH0 (by kernel_rfl) (by kernel_rfl) (by kernel_rfl) (List.Sublist.refl _) ?_) | (show drawK _ 30 _ _ _ _ _ _; refine draw_tree tabOk mixed [] _ dtJH1 (by kernel_rfl) (by kernel_rfl) (by kernel_rfl) (List.Sublist.refl _) ?_) | (show drawK _ 52 _ _ _ _ _ _; refine draw_tree tabOk mixed [42] _ dtJH2 (by kernel_rfl) (by kernel_rfl) (by kernel_rfl) (List.Sublist.refl _) ?_) | (show drawK _ _ _ _ _ _ _ _; refine draw_quiet tabOk mixed (by kernel_rfl) ?_) | (show Wp _ _ _ _ _ _ _; refine Wp.go tabOk rfl ?_) | (show @cmpK _ _ _; (first | refine cmpY ?_ | refine cmpN ?_ | (refine cmp_both ?_ ?_ <;> intro _))) | (show wrapK _ _ _; refine wrapA ?_) | (show leK _ _ _; refine leA ?_) | (show roomK _ _ _; refine roomA ?_) | (show ltK _ _ _; refine ltA ?_) | (show _ ∧ _; refine ⟨?_, ?_⟩) | (show keepK _ _ _ _ _; refine keepA ?_) | refine own_keep ?_ | refine ap_old ?_))
        all_goals (conv => whnf)
        exact ⟨(y + 1, m, us), [(2, some 3)], ⟨⟨by omega, by omega⟩, hso, by rw [hmx]; grind⟩, by simp only; omega, rfl, ⟨rfl, rfl, rfl, rfl, rfl, rfl, rfl, rfl, trivial⟩, ⟨(by repeat (first | exact List.mem_cons_self | apply List.mem_cons_of_mem)), (by repeat (first | exact List.mem_cons_self | apply List.mem_cons_of_mem)), trivial⟩, fun _ _ h => h⟩
    · have hyz : y = H := Int.le_antisymm hy1 (Int.not_lt.1 hyi)
      subst hyz
      (repeat' ((conv => whnf) <;> first | (show drawK _ 28 _ _ _ _ _ _; refine draw_tree tabOk mixed [25] _ dtJH0 (by kernel_rfl) (by kernel_rfl) (by kernel_rfl) (List.Sublist.refl _) ?_) | (show drawK _ 30 _ _ _ _ _ _; refine draw_tree tabOk mixed [] _ dtJH1 (by kernel_rfl) (by kernel_rfl) (by kernel_rfl) (List.Sublist.refl _) ?_) | (show drawK _ 52 _ _ _ _ _ _; refine draw_tree tabOk mixed [42] _ dtJH2 (by kernel_rfl) (by kernel_rfl) (by kernel_rfl) (List.Sublist.refl _) ?_) | (show drawK _ _ _ _ _ _ _ _; refine draw_quiet tabOk mixed (by kernel_rfl) ?_) | (show Wp _ _ _ _ _ _ _; refine Wp.go tabOk rfl ?_) | (show @cmpK _ _ _; (first | refine cmpY ?_ | refine cmpN ?_ | (refine cmp_both ?_ ?_ <;> intro _))) | (show wrapK _ _ _; refine wrapA ?_) | (show leK _ _ _; refine leA ?_) | (show roomK _ _ _; refine roomA ?_) | (show ltK _ _ _; refine ltA ?_) | (show _ ∧ _; refine ⟨?_, ?_⟩) | (show keepK _ _ _ _ _; refine keepA ?_) | refine own_keep ?_ | refine ap_old ?_))
      all_goals (conv => whnf)
      exact ⟨(c + 1, m, us), [(1, some 2)], ⟨⟨by omega, by omega⟩, hso, by rw [hmy]; grind⟩, by simp only; omega, rfl, ⟨rfl, rfl, rfl, rfl, rfl, rfl, rfl, trivial⟩, ⟨(by repeat (first | exact List.mem_cons_self | apply List.mem_cons_of_mem)), (by repeat (first | exact List.mem_cons_self | apply List.mem_cons_of_mem)), trivial⟩, fun _ _ h => h⟩
  · obtain rfl : c = i0 := Int.le_antisymm hc1 (Int.not_lt.1 hci)
    have hmcnt : m = cnt := by omega
    subst hmcnt
    (repeat' ((conv => whnf) <;> first | (show idxK _ _ _ _ _; refine idx_of _ 0 hut rfl (by omega) ?_) | (show roK _ _ _; refine ro_int (fun R w' h => hur R w' h.1) (j := 0) (by omega) ?_) | (show makeK _ _ _ _; (refine make_of m rfl rfl (by show 8 * _ ≤ _; omega) (by omega) ?_)) | (show drawK _ 28 _ _ _ _ _ _; refine draw_tree tabOk mixed [25] _ dtJH0 (by kernel_rfl) (by kernel_rfl) (by kernel_rfl) (List.Sublist.refl _) ?_) | (show drawK _ 30 _ _ _ _ _ _; refine draw_tree tabOk mixed [] _ dtJH1 (by kernel_rfl) (by kernel_rfl) (by kernel_rfl) (List.Sublist.refl _) ?_) | (show drawK _ 52 _ _ _ _ _ _; refine draw_tree tabOk mixed [42] _ dtJH2 (by kernel_rfl) (by kernel_rfl) (by kernel_rfl) (List.Sublist.refl _) ?_) | (show drawK _ _ _ _ _ _ _ _; refine draw_quiet tabOk mixed (by kernel_rfl) ?_) | (show Wp _ _ _ _ _ _ _; refine Wp.go tabOk rfl ?_) | (show @cmpK _ _ _; (first | refine cmpY ?_ | refine cmpN ?_ | (refine cmp_both ?_ ?_ <;> intro _))) | (show wrapK _ _ _; refine wrapA ?_) | (show leK _ _ _; refine leA ?_) | (show roomK _ _ _; refine roomA ?_) | (show ltK _ _ _; refine ltA ?_) | (show _ ∧ _; refine ⟨?_, ?_⟩) | (show keepK _ _ _ _ _; refine keepA ?_) | refine own_keep ?_ | refine ap_old ?_))
    all_goals (conv => whnf)
    refine mat_end_new (i := 1) (j := 2) (B := ⟨w, []⟩) (S := (baseA w).and (eachA w.heap.size us)) (bs := List.replicate m 0) (fun _ _ h => h.1) (fun _ _ h => h.2) rfl (by repeat (first | exact List.mem_cons_self | apply List.mem_cons_of_mem)) (by rw [ints_zeros]; exact (by repeat (first | exact List.mem_cons_self | apply List.mem_cons_of_mem))) hso.len.symm (by rw [List.length_replicate]) hso ?_ (fun x hx => by rw [(List.mem_replicate.1 hx).2]; exact ⟨by decide, by decide⟩) (by rw [List.length_replicate]; omega)
    unfold matBias
    apply List.ext_getElem
    · simp
    · intro k g1 g2
      rw [List.getElem_map, List.getElem_range, List.getElem_replicate]
      unfold biasI
      rw [if_neg (by omega), if_neg (by omega)]
end Go.Proofs.Ytdmkdogakbipbaa

/- JK -/
namespace Go.Proofs.Ytdmkdogakbipbaa
open Go.SX Go.RowKit
theorem lin_lt {o k1 c k0 : Int} (ho : 0 ≤ o ∧ o < k0) (hc : 0 ≤ c ∧ c < k1) : o * k1 + c < k0 * k1 := by
  have u : (o + 1) * k1 ≤ k0 * k1 := Int.mul_le_mul_of_nonneg_right (by omega) (by omega)
  rw [Int.add_mul, Int.one_mul] at u
  omega
theorem convT_at {T : List Sp} {d : List Int} {k1 k2 k3 i1 i2 W H o y x c i j : Int} {m p q : Nat} (hT : T = convT d k1 k2 k3 i1 i2 m) (hWd : i2 - k3 + 1 = W) (hHd : i1 - k2 + 1 = H) (hmx : (m : Int) = (o * H + y) * W + x) (hx : 0 ≤ x ∧ x < W) (hy : 0 ≤ y ∧ y < H) (hp : p < T.length) (he : (p : Int) = (c * k2 + i) * k3 + j) (hi : 0 ≤ i ∧ i < k2) (hj : 0 ≤ j ∧ j < k3) (hq : ((o * k1 + c) * k2 + i) * k3 + j = q) : T[p] = (d.getD q 0, (c * i1 + y + i) * i2 + x + j) := by
  subst hT
  have h1 := pos3 hmx hx hy
  have h2 := pos3 he hj hi
  have h3 : (o * k1 * k2 * k3 + (p : Int)).toNat = q := by
    have : o * k1 * k2 * k3 + (p : Int) = q := by rw [he, ← hq]; grind
    rw [this]; rfl
  simp only [convT, List.getElem_map, List.getElem_range]
  unfold convTerm
  rw [hWd, hHd, h1.1, h1.2.1, h1.2.2, h2.1, h2.2.1, h2.2.2, h3]
theorem bias_idx {cnt len m : Nat} {k0 H W o y x : Int} (hcnt : (cnt : Int) = k0 * H * W) (hbl : (len : Int) = k0) (hk : 0 < k0) (hm : (m : Int) = (o * H + y) * W + x) (hx : 0 ≤ x ∧ x < W) (hy : 0 ≤ y ∧ y < H) (ho : 0 ≤ o) : m / (cnt / len) = o.toNat := by
  have e1 : ((cnt / len : Nat) : Int) = H * W := by rw [Int.natCast_ediv, hcnt, hbl, Int.mul_assoc]; exact Int.mul_ediv_cancel_left _ (by omega)
  have e2 : ((m / (cnt / len) : Nat) : Int) = o := by
    rw [Int.natCast_ediv, e1, hm]
    have e : (o * H + y) * W + x = o * (H * W) + (y * W + x) := by grind
    rw [e]
    have b : y * W + x < H * W := lin_lt hy hx
    have b0 := Int.mul_nonneg hy.1 (show 0 ≤ W by omega)
    exact (mul_add_div ⟨by omega, b⟩).1
  omega
theorem conv_row {n : NodeV} {t : IntsV} (hk : n.kind = 4) {size : Nat} (hsz : entries t.xs = size) (o : Nat) {T : List Sp} (hT : T = convT n.data.xs (n.shape.xs.getD 1 0) (n.shape.xs.getD 2 0) (n.shape.xs.getD 3 0) (t.xs.getD 1 0) (t.xs.getD 2 0) o) {m : Nat} (hm : m = T.length) : rowP T size m = matRow n t.xs o := by
  subst hT hm
  unfold matRow termsG rowP
  rw [if_neg (by omega), if_neg (by omega), if_pos hk, List.take_of_length_le (Nat.le_refl _), hsz]; rfl
theorem convT_bd {T : List Sp} {d : List Int} {k1 k2 k3 i1 i2 o : Int} (hd : ∀ x ∈ d, bd20 x) (hT : T = convT d k1 k2 k3 i1 i2 o) : ∀ t ∈ T, bd20 t.1 := fun t ht => by
  subst hT
  obtain ⟨k, _, rfl⟩ := List.mem_map.1 ht
  exact getD_bd hd _
structure IxC (c i1 y i i2 x j o k1 k2 k3 : Int) : Prop where
  a1 : 0 ≤ c * i1 ∧ c * i1 ≤ 4096
  a2 : 0 ≤ (c * i1 + y + i) * i2 ∧ (c * i1 + y + i) * i2 ≤ 270336
  a3 : 0 ≤ o * k1 ∧ o * k1 ≤ 4096
  a4 : 0 ≤ (o * k1 + c) * k2 ∧ (o * k1 + c) * k2 ≤ 266240
  a5 : 0 ≤ ((o * k1 + c) * k2 + i) * k3 ∧ ((o * k1 + c) * k2 + i) * k3 ≤ 17043456
abbrev B64 (x : Int) : Prop := 0 ≤ x ∧ x ≤ 64
theorem ix_c {c i1 y i i2 x j o k1 k2 k3 : Int} (hc : B64 c) (h1 : B64 i1) (hy : B64 y) (hi : B64 i) (h2 : B64 i2) (ho : B64 o) (g1 : B64 k1) (g2 : B64 k2) (g3 : B64 k3) : IxC c i1 y i i2 x j o k1 k2 k3 := by
  have e1 := nn_bd (a := c) (b := i1) (A := 64) (B := 64) hc h1
  have e2 := nn_bd (a := c * i1 + y + i) (b := i2) (A := 4224) (B := 64) (by omega) h2
  have e3 := nn_bd (a := o) (b := k1) (A := 64) (B := 64) ho g1
  have e4 := nn_bd (a := o * k1 + c) (b := k2) (A := 4160) (B := 64) (by omega) g2
  have e5 := nn_bd (a := (o * k1 + c) * k2 + i) (b := k3) (A := 266304) (B := 64) (by omega) g3
  exact ⟨e1, e2, e3, e4, e5⟩
structure SofarC (n : NodeV) (tl : List Int) (cnt : Nat) (us : List IntsV) (bs : List Int) (m : Nat) : Prop where
  rows : Sofar3 n tl us m
  bias : bs = (List.range m).map (biasI n cnt)
theorem SofarC.blen {n : NodeV} {tl : List Int} {cnt : Nat} {us : List IntsV} {bs : List Int} {m : Nat} (h : SofarC n tl cnt us bs m) : bs.length = m := by rw [h.bias]; simp
theorem SofarC.next {n : NodeV} {tl : List Int} {cnt : Nat} {us : List IntsV} {bs : List Int} {m : Nat} {u : IntsV} {b : Int} (h : SofarC n tl cnt us bs m) (hu : u.sane) (hx : u.xs = matRow n tl m) (hb : biasI n cnt m = b) : SofarC n tl cnt (us ++ [u]) (bs ++ [b]) (m + 1) :=
  ⟨h.rows.next hu hx, by rw [h.bias, ← hb, List.range_succ, List.map_append]; rfl⟩
theorem ints_snocM (bs : List Int) (x : Int) {m : Nat} (hm : m = bs.length) {i : Nat} {T : TypeId} {H : Heap} : (i, Ent.rows (ints (bs ++ [x])) 1 T) ∈ (i, Ent.rows (List.take m (ints bs) ++ [[.int .i64 x]]) 1 T) :: H := by
  subst hm; exact ints_snoc bs x
end Go.Proofs.Ytdmkdogakbipbaa

/- JL -/
namespace Go.Proofs.Ytdmkdogakbipbaa
open Go.SX Go.RowKit
set_option maxRecDepth 20000 in
set_option maxHeartbeats 8000000 in
theorem mat_conv (w : World) (n : NodeV) (t : IntsV) (ht : t.ok w) (hno : n.ok w) (hk : n.kind = 4) (size cnt : Nat) (k0 k1 k2 k3 i1 i2 : Int) (hsx : n.shape.xs = [k0, k1, k2, k3]) (htx : t.xs = [k1, i1, i2]) (hsz : entries t.xs = size) (hs64 : size ≤ 64) (b0 : 1 ≤ k0 ∧ k0 ≤ 64) (b1 : 1 ≤ k1 ∧ k1 ≤ 64) (b2 : 1 ≤ k2 ∧ k2 ≤ i1) (b3 : 1 ≤ k3 ∧ k3 ≤ i2) (bi1 : i1 ≤ 64) (bi2 : i2 ≤ 64) (hdl : (n.data.xs.length : Int) = k0 * k1 * k2 * k3) (hbl : (n.bias.xs.length : Int) = k0) (hdb : ∀ x ∈ n.data.xs, bd20 x) (hbb : ∀ x ∈ n.bias.xs, bd20 x) (hcnt : (cnt : Int) = k0 * (i1 - k2 + 1) * (i2 - k3 + 1)) (hc64 : cnt ≤ 64) (hat : ∀ o : Nat, o < cnt → ∀ s ∈ convT n.data.xs k1 k2 k3 i1 i2 o, 0 ≤ s.2 ∧ s.2 < size) : Calls Try.prog 66 #[n.valA, t.val] w (MatPost w n t.xs cnt) := by
  have hdpos : 0 < n.data.xs.length := by
    have := Int.mul_pos (Int.mul_pos (Int.mul_pos (show 0 < k0 by omega) (show 0 < k1 by omega)) (show 0 < k2 by omega)) (show 0 < k3 by omega)
    omega
  obtain ⟨ut, hut⟩ := ht.base (by rw [htx]; simp)
  obtain ⟨ua, hus⟩ := hno.shape.base (by rw [hsx]; simp)
  obtain ⟨ub, hub⟩ := hno.bias.base (by omega)
  obtain ⟨ud, hud⟩ := hno.data.base hdpos
  have hur : ∀ (R : Nat → Prop) w', (baseA w).holds R w' → RowsI w' (some ut) 1 (ints t.xs) := fun R w' h => by rw [← hut]; exact rows_base h ht.rows
  have hsr : ∀ (R : Nat → Prop) w', (baseA w).holds R w' → RowsI w' (some ua) 1 (ints n.shape.xs) := fun R w' h => by rw [← hus]; exact rows_base h hno.shape.rows
  have hbr : ∀ (R : Nat → Prop) w', (baseA w).holds R w' → RowsI w' (some ub) 1 (ints n.bias.xs) := fun R w' h => by rw [← hub]; exact rows_base h hno.bias.rows
  have hdr : ∀ (R : Nat → Prop) w', (baseA w).holds R w' → RowsI w' (some ud) 1 (ints n.data.xs) := fun R w' h => by rw [← hud]; exact rows_base h hno.data.rows
  have g1 : t.xs.getD 1 0 = i1 := by rw [htx]; rfl
  have g2 : t.xs.getD 2 0 = i2 := by rw [htx]; rfl
  have s0 : n.shape.xs.getD 0 0 = k0 := by rw [hsx]; rfl
  have s1 : n.shape.xs.getD 1 0 = k1 := by rw [hsx]; rfl
  have s2 : n.shape.xs.getD 2 0 = k2 := by rw [hsx]; rfl
  have s3 : n.shape.xs.getD 3 0 = k3 := by rw [hsx]; rfl
  have hl3 : t.xs.length = 3 := by rw [htx]; rfl
  have hl4 : n.shape.xs.length = 4 := by rw [hsx]; rfl
  obtain ⟨H, hHd⟩ : ∃ H, i1 - k2 + 1 = H := ⟨_, rfl⟩
  obtain ⟨W, hWd⟩ : ∃ W, i2 - k3 + 1 = W := ⟨_, rfl⟩
  rw [hHd, hWd] at hcnt
  have hH0 : 0 ≤ H := by omega
  have hW0 : 0 ≤ W := by omega
  have hTl : ∀ o : Nat, ((convT n.data.xs k1 k2 k3 i1 i2 o).length : Int) = k1 * k2 * k3 := fun o => by
    have : 0 ≤ k1 * k2 * k3 := Int.mul_nonneg (Int.mul_nonneg (by omega) (by omega)) (by omega)
    simp only [convT, List.length_map, List.length_range]; exact Int.toNat_of_nonneg this
  have c1 : B64 k1 := ⟨by omega, b1.2⟩
  have c2 : B64 k2 := ⟨by omega, by omega⟩
  have c3 : B64 k3 := ⟨by omega, by omega⟩
  have ci1 : B64 i1 := ⟨by omega, bi1⟩
  have ci2 : B64 i2 := ⟨by omega, bi2⟩
  refine calls_of tab tabOk Try.func66 rfl rfl rfl [] (fun _ => ⟨none, 0⟩) [.agg [.c (.int .i64 n.kind), .c (.int .i64 n.a), .c (.int .i64 n.b), .c n.shape.val, .c (.int .i64 n.lo), .c (.int .i64 n.hi), .c (.int .i64 n.size), .c n.data.val, .c n.bias.val], .c t.val] [] (baseA w) 0 rfl rfl (by show 2 ≤ _; decide) (abs_base w) ?_
  (repeat' ((conv => whnf) <;> first | (show callK _ 34 _ _ _ _ _; refine call_pure (f := 34) Try.call34 (.int .i64 (entries t.xs)) (fun ρ w' hw => refEntries_any w' t.base t.cap t.xs (holds_of_abs hw fun R h => rows_base h ht.rows)) ?_) | (show idxK _ _ _ _ _; (first | refine idx_of _ 1 hut rfl (by omega) ?_ | refine idx_of _ 2 hut rfl (by omega) ?_ | refine idx_of _ 0 hus rfl (by omega) ?_ | refine idx_of _ 1 hus rfl (by omega) ?_ | refine idx_of _ 2 hus rfl (by omega) ?_ | refine idx_of _ 3 hus rfl (by omega) ?_)) | (show roK _ _ _; (first | refine ro_intv (fun R w' h => hur R w' h.1) (j := 1) (by omega) g1 ?_ | refine ro_intv (fun R w' h => hur R w' h.1) (j := 2) (by omega) g2 ?_ | refine ro_intv (fun R w' h => hsr R w' h.1) (j := 0) (by omega) s0 ?_ | refine ro_intv (fun R w' h => hsr R w' h.1) (j := 1) (by omega) s1 ?_ | refine ro_intv (fun R w' h => hsr R w' h.1) (j := 2) (by omega) s2 ?_ | refine ro_intv (fun R w' h => hsr R w' h.1) (j := 3) (by omega) s3 ?_)) | (show drawK _ 28 _ _ _ _ _ _; refine draw_tree tabOk mixed [25] _ dtJH0 (by kernel_rfl) (by kernel_rfl) (by kernel_rfl) (List.Sublist.refl _) ?_) | (show drawK _ 30 _ _ _ _ _ _; refine draw_tree tabOk mixed [] _ dtJH1 (by kernel_rfl) (by kernel_rfl) (by kernel_rfl) (List.Sublist.refl _) ?_) | (show drawK _ 52 _ _ _ _ _ _; refine draw_tree tabOk mixed [42] _ dtJH2 (by kernel_rfl) (by kernel_rfl) (by kernel_rfl) (List.Sublist.refl _) ?_) | (show drawK _ _ _ _ _ _ _ _; refine draw_quiet tabOk mixed (by kernel_rfl) ?_) | (show Wp _ _ _ _ _ _ _; refine Wp.go tabOk rfl ?_) | (show @cmpK _ _ _; (first | refine cmpY ?_ | refine cmpN ?_ | (refine cmp_both ?_ ?_ <;> intro _))) | (show wrapK _ _ _; refine wrapA ?_) | (show leK _ _ _; refine leA ?_) | (show roomK _ _ _; refine roomA ?_) | (show ltK _ _ _; refine ltA ?_) | (show _ ∧ _; refine ⟨?_, ?_⟩) | (show keepK _ _ _ _ _; refine keepA ?_) | refine own_keep ?_ | refine ap_old ?_))
  refine Wp.loop (σ := Int × Nat × List IntsV × List Int) 3 (fun ⟨o, m, us, bs⟩ => [(1, .c t.val), (2, .lp 0 0 0 0), (6, .c (.int .i64 size)), (18, .c n.shape.val), (7, .os 1 m), (17, .os 2 m), (19, .c (.int .i64 o))]) (fun ⟨_, _, us, bs⟩ => [(1, .rows (shRows us) 1 33), (2, .rows (ints bs) 1 3), (0, .box [.c (.int .i64 n.kind), .c (.int .i64 n.a), .c (.int .i64 n.b), .c n.shape.val, .c (.int .i64 n.lo), .c (.int .i64 n.hi), .c (.int .i64 n.size), .c n.data.val, .c n.bias.val] 38)]) (fun ⟨_, _, us, _⟩ => (baseA w).and (eachA w.heap.size us))
    (fun ⟨o, m, us, bs⟩ => (0 ≤ o ∧ o ≤ k0) ∧ SofarC n t.xs cnt us bs m ∧ (m : Int) = o * H * W) (fun s => (k0 - s.1).toNat) (0, 0, [], []) [(1, none), (2, none)] (by decide) (fun s => ⟨rfl, rfl⟩) ⟨⟨Int.le_refl _, by omega⟩, ⟨⟨rfl, fun u hu => by simp at hu⟩, rfl⟩, by simp⟩ ⟨rfl, ⟨rfl, rfl, ?_, rfl, rfl, rfl, rfl, trivial⟩, ⟨rfl, rfl, (by repeat (first | exact List.mem_cons_self | apply List.mem_cons_of_mem)), trivial⟩, fun R w' h => ⟨h, eachA_nil _ R w'⟩⟩ ?_
  · rw [hsz]; rfl
  rintro ⟨o, m, us, bs⟩ ⟨⟨ho0, ho1⟩, hso, hmo⟩
  by_cases hok : o < k0
  · (repeat' ((conv => whnf) <;> first | (show idxK _ _ _ _ _; (first | refine idx_of _ 1 hut rfl (by omega) ?_ | refine idx_of _ 2 hut rfl (by omega) ?_ | refine idx_of _ 0 hus rfl (by omega) ?_ | refine idx_of _ 1 hus rfl (by omega) ?_ | refine idx_of _ 2 hus rfl (by omega) ?_ | refine idx_of _ 3 hus rfl (by omega) ?_)) | (show roK _ _ _; (first | refine ro_intv (fun R w' h => hur R w' h.1) (j := 1) (by omega) g1 ?_ | refine ro_intv (fun R w' h => hur R w' h.1) (j := 2) (by omega) g2 ?_ | refine ro_intv (fun R w' h => hsr R w' h.1) (j := 0) (by omega) s0 ?_ | refine ro_intv (fun R w' h => hsr R w' h.1) (j := 1) (by omega) s1 ?_ | refine ro_intv (fun R w' h => hsr R w' h.1) (j := 2) (by omega) s2 ?_ | refine ro_intv (fun R w' h => hsr R w' h.1) (j := 3) (by omega) s3 ?_)) | (show drawK _ 28 _ _ _ _ _ _; refine draw_tree tabOk mixed [25] _ dtJH0 (by kernel_rfl) (by kernel_rfl) (by kernel_rfl) (List.Sublist.refl _) ?_) | (show drawK _ 30 _ _ _ _ _ _; refine draw_tree tabOk mixed [] _ dtJH1 (by kernel_rfl) (by kernel_rfl) (by kernel_rfl) (List.Sublist.refl _) ?_) | (show drawK _ 52 _ _ _ _ _ _; refine draw_tree tabOk mixed [42] _ dtJH2 (by kernel_rfl) (by kernel_rfl) (by kernel_rfl) (List.Sublist.refl _) ?_) | (show drawK _ _ _ _ _ _ _ _; refine draw_quiet tabOk mixed (by kernel_rfl) ?_) | (show Wp _ _ _ _ _ _ _; refine Wp.go tabOk rfl ?_) | (show @cmpK _ _ _; (first | refine cmpY ?_ | refine cmpN ?_ | (refine cmp_both ?_ ?_ <;> intro _))) | (show wrapK _ _ _; refine wrapA ?_) | (show leK _ _ _; refine leA ?_) | (show roomK _ _ _; refine roomA ?_) | (show ltK _ _ _; refine ltA ?_) | (show _ ∧ _; refine ⟨?_, ?_⟩) | (show keepK _ _ _ _ _; refine keepA ?_) | refine own_keep ?_ | refine ap_old ?_))
    refine Wp.loop (σ := Int × Nat × List IntsV × List Int) 5 (fun ⟨y, m, us, bs⟩ => [(1, .c t.val), (2, .lp 0 0 0 0), (6, .c (.int .i64 size)), (18, .c n.shape.val), (7, .os 3 m), (17, .os 4 m), (19, .c (.int .i64 o)), (20, .c (.int .i64 y))]) (fun ⟨_, _, us, bs⟩ => [(3, .rows (shRows us) 1 33), (4, .rows (ints bs) 1 3), (0, .box [.c (.int .i64 n.kind), .c (.int .i64 n.a), .c (.int .i64 n.b), .c n.shape.val, .c (.int .i64 n.lo), .c (.int .i64 n.hi), .c (.int .i64 n.size), .c n.data.val, .c n.bias.val] 38)]) (fun ⟨_, _, us, _⟩ => (baseA w).and (eachA w.heap.size us))
      (fun ⟨y, m, us, bs⟩ => (0 ≤ y ∧ y ≤ H) ∧ SofarC n t.xs cnt us bs m ∧ (m : Int) = (o * H + y) * W) (fun s => (H - s.1).toNat) (0, m, us, bs) [(3, some 1), (4, some 2)] (by decide) (fun s => ⟨rfl, rfl⟩) ⟨⟨Int.le_refl _, hH0⟩, hso, by rw [hmo, Int.add_zero]⟩ ⟨rfl, ⟨rfl, rfl, rfl, rfl, rfl, rfl, rfl, rfl, trivial⟩, ⟨(by repeat (first | exact List.mem_cons_self | apply List.mem_cons_of_mem)), (by repeat (first | exact List.mem_cons_self | apply List.mem_cons_of_mem)), (by repeat (first | exact List.mem_cons_self | apply List.mem_cons_of_mem)), trivial⟩, fun _ _ h => h⟩ ?_
    clear hmo hso
    have co : B64 o := ⟨ho0, Int.le_trans ho1 b0.2⟩
    rintro ⟨y, m, us, bs⟩ ⟨⟨hy0, hy1⟩, hso, hmy⟩
    by_cases hyi : y < H
    · (repeat' ((conv => whnf) <;> first | (show idxK _ _ _ _ _; (first | refine idx_of _ 1 hut rfl (by omega) ?_ | refine idx_of _ 2 hut rfl (by omega) ?_ | refine idx_of _ 0 hus rfl (by omega) ?_ | refine idx_of _ 1 hus rfl (by omega) ?_ | refine idx_of _ 2 hus rfl (by omega) ?_ | refine idx_of _ 3 hus rfl (by omega) ?_)) | (show roK _ _ _; (first | refine ro_intv (fun R w' h => hur R w' h.1) (j := 1) (by omega) g1 ?_ | refine ro_intv (fun R w' h => hur R w' h.1) (j := 2) (by omega) g2 ?_ | refine ro_intv (fun R w' h => hsr R w' h.1) (j := 0) (by omega) s0 ?_ | refine ro_intv (fun R w' h => hsr R w' h.1) (j := 1) (by omega) s1 ?_ | refine ro_intv (fun R w' h => hsr R w' h.1) (j := 2) (by omega) s2 ?_ | refine ro_intv (fun R w' h => hsr R w' h.1) (j := 3) (by omega) s3 ?_)) | (show drawK _ 28 _ _ _ _ _ _; refine draw_tree tabOk mixed [25] _ dtJH0 (by kernel_rfl) (by kernel_rfl) (by kernel_rfl) (List.Sublist.refl _) ?_) | (show drawK _ 30 _ _ _ _ _ _; refine draw_tree tabOk mixed [] _ dtJH1 (by kernel_rfl) (by kernel_rfl) (by kernel_rfl) (List.Sublist.refl _) ?_) | (show drawK _ 52 _ _ _ _ _ _; refine draw_tree tabOk mixed [42] _ dtJH2 (by kernel_rfl) (by kernel_rfl) (by kernel_rfl) (List.Sublist.refl _) ?_) | (show drawK _ _ _ _ _ _ _ _; refine draw_quiet tabOk mixed (by kernel_rfl) ?_) | (show Wp _ _ _ _ _ _ _; refine Wp.go tabOk rfl ?_) | (show @cmpK _ _ _; (first | refine cmpY ?_ | refine cmpN ?_ | (refine cmp_both ?_ ?_ <;> intro _))) | (show wrapK _ _ _; refine wrapA ?_) | (show leK _ _ _; refine leA ?_) | (show roomK _ _ _; refine roomA ?_) | (show ltK _ _ _; refine ltA ?_) | (show _ ∧ _; refine ⟨?_, ?_⟩) | (show keepK _ _ _ _ _; refine keepA ?_) | refine own_keep ?_ | refine ap_old ?_))
      refine Wp.loop (σ := Int × Nat × List IntsV × List Int) 7 (fun ⟨x, m, us, bs⟩ => [(1, .c t.val), (2, .lp 0 0 0 0), (6, .c (.int .i64 size)), (18, .c n.shape.val), (7, .os 5 m), (17, .os 6 m), (19, .c (.int .i64 o)), (20, .c (.int .i64 y)), (21, .c (.int .i64 x))]) (fun ⟨_, _, us, bs⟩ => [(5, .rows (shRows us) 1 33), (6, .rows (ints bs) 1 3), (0, .box [.c (.int .i64 n.kind), .c (.int .i64 n.a), .c (.int .i64 n.b), .c n.shape.val, .c (.int .i64 n.lo), .c (.int .i64 n.hi), .c (.int .i64 n.size), .c n.data.val, .c n.bias.val] 38)]) (fun ⟨_, _, us, _⟩ => (baseA w).and (eachA w.heap.size us))
        (fun ⟨x, m, us, bs⟩ => (0 ≤ x ∧ x ≤ W) ∧ SofarC n t.xs cnt us bs m ∧ (m : Int) = (o * H + y) * W + x) (fun s => (W - s.1).toNat) (0, m, us, bs) [(5, some 3), (6, some 4)] (by decide) (fun s => ⟨rfl, rfl⟩) ⟨⟨Int.le_refl _, hW0⟩, hso, by rw [hmy, Int.add_zero]⟩ ⟨rfl, ⟨rfl, rfl, rfl, rfl, rfl, rfl, rfl, rfl, rfl, trivial⟩, ⟨(by repeat (first | exact List.mem_cons_self | apply List.mem_cons_of_mem)), (by repeat (first | exact List.mem_cons_self | apply List.mem_cons_of_mem)), (by repeat (first | exact List.mem_cons_self | apply List.mem_cons_of_mem)), trivial⟩, fun _ _ h => h⟩ ?_
      clear hmy hso
      have cy : B64 y := ⟨hy0, by omega⟩
      rintro ⟨x, m, us, bs⟩ ⟨⟨hx0, hx1⟩, hso, hmx⟩
      by_cases hxi : x < W
      · (repeat' ((conv => whnf) <;> first | (show idxK _ _ _ _ _; (first | refine idx_of _ 1 hut rfl (by omega) ?_ | refine idx_of _ 2 hut rfl (by omega) ?_ | refine idx_of _ 0 hus rfl (by omega) ?_ | refine idx_of _ 1 hus rfl (by omega) ?_ | refine idx_of _ 2 hus rfl (by omega) ?_ | refine idx_of _ 3 hus rfl (by omega) ?_)) | (show roK _ _ _; (first | refine ro_intv (fun R w' h => hur R w' h.1) (j := 1) (by omega) g1 ?_ | refine ro_intv (fun R w' h => hur R w' h.1) (j := 2) (by omega) g2 ?_ | refine ro_intv (fun R w' h => hsr R w' h.1) (j := 0) (by omega) s0 ?_ | refine ro_intv (fun R w' h => hsr R w' h.1) (j := 1) (by omega) s1 ?_ | refine ro_intv (fun R w' h => hsr R w' h.1) (j := 2) (by omega) s2 ?_ | refine ro_intv (fun R w' h => hsr R w' h.1) (j := 3) (by omega) s3 ?_)) | (show makeK _ _ _ _; (refine make_of size rfl rfl (by show 8 * _ ≤ _; omega) (by omega) ?_)) | (show drawK _ 28 _ _ _ _ _ _; refine draw_tree tabOk mixed [25] _ dtJH0 (by kernel_rfl) (by kernel_rfl) (by kernel_rfl) (List.Sublist.refl _) ?_) | (show drawK _ 30 _ _ _ _ _ _; refine draw_tree tabOk mixed [] _ dtJH1 (by kernel_rfl) (by kernel_rfl) (by kernel_rfl) (List.Sublist.refl _) ?_) | (show drawK _ 52 _ _ _ _ _ _; refine draw_tree tabOk mixed [42] _ dtJH2 (by kernel_rfl) (by kernel_rfl) (by kernel_rfl) (List.Sublist.refl _) ?_) | (show drawK _ _ _ _ _ _ _ _; refine draw_quiet tabOk mixed (by kernel_rfl) ?_) | (show Wp _ _ _ _ _ _ _; refine Wp.go tabOk rfl ?_) | (show @cmpK _ _ _; (first | refine cmpY ?_ | refine cmpN ?_ | (refine cmp_both ?_ ?_ <;> intro _))) | (show wrapK _ _ _; refine wrapA ?_) | (show leK _ _ _; refine leA ?_) | (show roomK _ _ _; refine roomA ?_) | (show ltK _ _ _; refine ltA ?_) | (show _ ∧ _; refine ⟨?_, ?_⟩) | (show keepK _ _ _ _ _; refine keepA ?_) | refine own_keep ?_ | refine ap_old ?_))
        have hmlt : m < cnt := Int.ofNat_lt.1 (pos_lt hmx hcnt ⟨hx0, hxi⟩ ⟨hy0, hyi⟩ hok)
        have hatm := hat m hmlt
        have hTe : ∃ T, T = convT n.data.xs k1 k2 k3 i1 i2 m := ⟨_, rfl⟩
        obtain ⟨T, hT⟩ := hTe
        have hTz := hTl m
        have hTat : ∀ (p q : Nat) (c i j : Int) (hp : p < T.length), (p : Int) = (c * k2 + i) * k3 + j → 0 ≤ i ∧ i < k2 → 0 ≤ j ∧ j < k3 → ((o * k1 + c) * k2 + i) * k3 + j = q → T[p] = (n.data.xs.getD q 0, (c * i1 + y + i) * i2 + x + j) := fun p q c i j hp he h0 h1 hq => convT_at hT hWd hHd hmx ⟨hx0, hxi⟩ ⟨hy0, hyi⟩ hp he h0 h1 hq
        have hTb := convT_bd hdb hT
        have hbi : biasI n cnt m = n.bias.xs.getD o.toNat 0 := by
          unfold biasI
          rw [if_neg (by omega), if_pos hk, bias_idx hcnt hbl (by omega) hmx ⟨hx0, hxi⟩ ⟨hy0, hyi⟩ ho0]
        have cx : B64 x := ⟨hx0, by omega⟩
        rw [← hT] at hatm hTz
        clear hTl hat
        refine Wp.loop (σ := Int × Nat) 8 (fun ⟨c, _⟩ => [(1, .c t.val), (2, .lp 0 0 0 0), (6, .c (.int .i64 size)), (18, .c n.shape.val), (7, .os 5 m), (17, .os 6 m), (19, .c (.int .i64 o)), (20, .c (.int .i64 y)), (21, .c (.int .i64 x)), (22, .os 7 size), (23, .c (.int .i64 c))]) (fun ⟨_, p⟩ => [(7, .rows (ints (rowP T size p)) 1 3), (5, .rows (shRows us) 1 33), (6, .rows (ints bs) 1 3), (0, .box [.c (.int .i64 n.kind), .c (.int .i64 n.a), .c (.int .i64 n.b), .c n.shape.val, .c (.int .i64 n.lo), .c (.int .i64 n.hi), .c (.int .i64 n.size), .c n.data.val, .c n.bias.val] 38)]) (fun _ => (baseA w).and (eachA w.heap.size us))
          (fun ⟨c, p⟩ => (0 ≤ c ∧ c ≤ k1) ∧ (p : Int) = c * k2 * k3) (fun s => (k1 - s.1).toNat) (0, 0) [] (by decide) (fun s => ⟨rfl, rfl⟩) ⟨⟨Int.le_refl _, c1.1⟩, by simp⟩ ⟨rfl, ⟨rfl, rfl, rfl, rfl, rfl, rfl, rfl, rfl, rfl, rfl, rfl, trivial⟩, ⟨?_, (by repeat (first | exact List.mem_cons_self | apply List.mem_cons_of_mem)), (by repeat (first | exact List.mem_cons_self | apply List.mem_cons_of_mem)), (by repeat (first | exact List.mem_cons_self | apply List.mem_cons_of_mem)), trivial⟩, fun _ _ h => h⟩ ?_
        · have : ints (rowP T size 0) = List.replicate size [Value.int .i64 0] := by simp [ints, rowP]
          show (7, Ent.rows (ints (rowP T size 0)) 1 3) ∈ _
          rw [this]
          exact (by repeat (first | exact List.mem_cons_self | apply List.mem_cons_of_mem))
        rintro ⟨c, p⟩ ⟨⟨hc0, hc1⟩, hpc⟩
        by_cases hck : c < k1
        · clear hcnt hmx hmlt hso hT hTb hbi hbb hdb hsz hHd hWd
          have cc : B64 c := ⟨hc0, Int.le_trans hc1 b1.2⟩
          (repeat' ((conv => whnf) <;> first | (show idxK _ _ _ _ _; (first | refine idx_of _ 1 hut rfl (by omega) ?_ | refine idx_of _ 2 hut rfl (by omega) ?_ | refine idx_of _ 0 hus rfl (by omega) ?_ | refine idx_of _ 1 hus rfl (by omega) ?_ | refine idx_of _ 2 hus rfl (by omega) ?_ | refine idx_of _ 3 hus rfl (by omega) ?_)) | (show roK _ _ _; (first | refine ro_intv (fun R w' h => hur R w' h.1) (j := 1) (by omega) g1 ?_ | refine ro_intv (fun R w' h => hur R w' h.1) (j := 2) (by omega) g2 ?_ | refine ro_intv (fun R w' h => hsr R w' h.1) (j := 0) (by omega) s0 ?_ | refine ro_intv (fun R w' h => hsr R w' h.1) (j := 1) (by omega) s1 ?_ | refine ro_intv (fun R w' h => hsr R w' h.1) (j := 2) (by omega) s2 ?_ | refine ro_intv (fun R w' h => hsr R w' h.1) (j := 3) (by omega) s3 ?_)) | (show drawK _ 28 _ _ _ _ _ _; refine draw_tree tabOk mixed [25] _ dtJH0 (by kernel_rfl) (by kernel_rfl) (by kernel_rfl) (List.Sublist.refl _) ?_) | (show drawK _ 30 _ _ _ _ _ _; refine draw_tree tabOk mixed [] _ dtJH1 (by kernel_rfl) (by kernel_rfl) (by kernel_rfl) (List.Sublist.refl _) ?_) | (show drawK _ 52 _ _ _ _ _ _; refine draw_tree tabOk mixed [42] _ dtJH2 (by kernel_rfl) (by kernel_rfl) (by kernel_rfl) (List.Sublist.refl _) ?_) | (show drawK _ _ _ _ _ _ _ _; refine draw_quiet tabOk mixed (by kernel_rfl) ?_) | (show Wp _ _ _ _ _ _ _; refine Wp.go tabOk rfl ?_) | (show @cmpK _ _ _; (first | refine cmpY ?_ | refine cmpN ?_ | (refine cmp_both ?_ ?_ <;> intro _))) | (show wrapK _ _ _; refine wrapA ?_) | (show leK _ _ _; refine leA ?_) | (show roomK _ _ _; refine roomA ?_) | (show ltK _ _ _; refine ltA ?_) | (show _ ∧ _; refine ⟨?_, ?_⟩) | (show keepK _ _ _ _ _; refine keepA ?_) | refine own_keep ?_ | refine ap_old ?_))
          refine Wp.loop (σ := Int × Nat) 8 (fun ⟨i, _⟩ => [(1, .c t.val), (2, .lp 0 0 0 0), (6, .c (.int .i64 size)), (18, .c n.shape.val), (7, .os 5 m), (17, .os 6 m), (19, .c (.int .i64 o)), (20, .c (.int .i64 y)), (21, .c (.int .i64 x)), (22, .os 7 size), (23, .c (.int .i64 c)), (24, .c (.int .i64 i))]) (fun ⟨_, p⟩ => [(7, .rows (ints (rowP T size p)) 1 3), (5, .rows (shRows us) 1 33), (6, .rows (ints bs) 1 3), (0, .box [.c (.int .i64 n.kind), .c (.int .i64 n.a), .c (.int .i64 n.b), .c n.shape.val, .c (.int .i64 n.lo), .c (.int .i64 n.hi), .c (.int .i64 n.size), .c n.data.val, .c n.bias.val] 38)]) (fun _ => (baseA w).and (eachA w.heap.size us))
            (fun ⟨i, p⟩ => (0 ≤ i ∧ i ≤ k2) ∧ (p : Int) = (c * k2 + i) * k3) (fun s => (k2 - s.1).toNat) (0, p) [] (by decide) (fun s => ⟨rfl, rfl⟩) ⟨⟨Int.le_refl _, c2.1⟩, by rw [hpc, Int.add_zero]⟩ ⟨rfl, ⟨rfl, rfl, rfl, rfl, rfl, rfl, rfl, rfl, rfl, rfl, rfl, rfl, trivial⟩, ⟨(by repeat (first | exact List.mem_cons_self | apply List.mem_cons_of_mem)), (by repeat (first | exact List.mem_cons_self | apply List.mem_cons_of_mem)), (by repeat (first | exact List.mem_cons_self | apply List.mem_cons_of_mem)), (by repeat (first | exact List.mem_cons_self | apply List.mem_cons_of_mem)), trivial⟩, fun _ _ h => h⟩ ?_
          clear hpc
          rintro ⟨i, p⟩ ⟨⟨hi0, hi1⟩, hpi⟩
          by_cases hii : i < k2
          · have ci : B64 i := ⟨hi0, Int.le_trans hi1 c2.2⟩
            (repeat' ((conv => whnf) <;> first | (show idxK _ _ _ _ _; (first | refine idx_of _ 1 hut rfl (by omega) ?_ | refine idx_of _ 2 hut rfl (by omega) ?_ | refine idx_of _ 0 hus rfl (by omega) ?_ | refine idx_of _ 1 hus rfl (by omega) ?_ | refine idx_of _ 2 hus rfl (by omega) ?_ | refine idx_of _ 3 hus rfl (by omega) ?_)) | (show roK _ _ _; (first | refine ro_intv (fun R w' h => hur R w' h.1) (j := 1) (by omega) g1 ?_ | refine ro_intv (fun R w' h => hur R w' h.1) (j := 2) (by omega) g2 ?_ | refine ro_intv (fun R w' h => hsr R w' h.1) (j := 0) (by omega) s0 ?_ | refine ro_intv (fun R w' h => hsr R w' h.1) (j := 1) (by omega) s1 ?_ | refine ro_intv (fun R w' h => hsr R w' h.1) (j := 2) (by omega) s2 ?_ | refine ro_intv (fun R w' h => hsr R w' h.1) (j := 3) (by omega) s3 ?_)) | (show drawK _ 28 _ _ _ _ _ _; refine draw_tree tabOk mixed [25] _ dtJH0 (by kernel_rfl) (by kernel_rfl) (by kernel_rfl) (List.Sublist.refl _) ?_) | (show drawK _ 30 _ _ _ _ _ _; refine draw_tree tabOk mixed [] _ dtJH1 (by kernel_rfl) (by kernel_rfl) (by kernel_rfl) (List.Sublist.refl _) ?_) | (show drawK _ 52 _ _ _ _ _ _; refine draw_tree tabOk mixed [42] _ dtJH2 (by kernel_rfl) (by kernel_rfl) (by kernel_rfl) (List.Sublist.refl _) ?_) | (show drawK _ _ _ _ _ _ _ _; refine draw_quiet tabOk mixed (by kernel_rfl) ?_) | (show Wp _ _ _ _ _ _ _; refine Wp.go tabOk rfl ?_) | (show @cmpK _ _ _; (first | refine cmpY ?_ | refine cmpN ?_ | (refine cmp_both ?_ ?_ <;> intro _))) | (show wrapK _ _ _; refine wrapA ?_) | (show leK _ _ _; refine leA ?_) | (show roomK _ _ _; refine roomA ?_) | (show ltK _ _ _; refine ltA ?_) | (show _ ∧ _; refine ⟨?_, ?_⟩) | (show keepK _ _ _ _ _; refine keepA ?_) | refine own_keep ?_ | refine ap_old ?_))
            refine Wp.loop (σ := Int × Nat) 8 (fun ⟨j, _⟩ => [(1, .c t.val), (2, .lp 0 0 0 0), (6, .c (.int .i64 size)), (18, .c n.shape.val), (7, .os 5 m), (17, .os 6 m), (19, .c (.int .i64 o)), (20, .c (.int .i64 y)), (21, .c (.int .i64 x)), (22, .os 7 size), (23, .c (.int .i64 c)), (24, .c (.int .i64 i)), (25, .c (.int .i64 j))]) (fun ⟨_, p⟩ => [(7, .rows (ints (rowP T size p)) 1 3), (5, .rows (shRows us) 1 33), (6, .rows (ints bs) 1 3), (0, .box [.c (.int .i64 n.kind), .c (.int .i64 n.a), .c (.int .i64 n.b), .c n.shape.val, .c (.int .i64 n.lo), .c (.int .i64 n.hi), .c (.int .i64 n.size), .c n.data.val, .c n.bias.val] 38)]) (fun _ => (baseA w).and (eachA w.heap.size us))
              (fun ⟨j, p⟩ => (0 ≤ j ∧ j ≤ k3) ∧ (p : Int) = (c * k2 + i) * k3 + j) (fun s => (k3 - s.1).toNat) (0, p) [] (by decide) (fun s => ⟨rfl, rfl⟩) ⟨⟨Int.le_refl _, c3.1⟩, by rw [hpi, Int.add_zero]⟩ ⟨rfl, ⟨rfl, rfl, rfl, rfl, rfl, rfl, rfl, rfl, rfl, rfl, rfl, rfl, rfl, trivial⟩, ⟨(by repeat (first | exact List.mem_cons_self | apply List.mem_cons_of_mem)), (by repeat (first | exact List.mem_cons_self | apply List.mem_cons_of_mem)), (by repeat (first | exact List.mem_cons_self | apply List.mem_cons_of_mem)), (by repeat (first | exact List.mem_cons_self | apply List.mem_cons_of_mem)), trivial⟩, fun _ _ h => h⟩ ?_
            clear hpi
            rintro ⟨j, p⟩ ⟨⟨hj0, hj1⟩, hpj⟩
            by_cases hjk : j < k3
            · have hpT : p < T.length := Int.ofNat_lt.1 (pos_lt hpj hTz ⟨hj0, hjk⟩ ⟨hi0, hii⟩ hck)
              have E := ix_c (x := x) (j := j) cc ci1 cy ci ci2 co c1 c2 c3
              obtain ⟨e1, e2, e3, e4, e5⟩ := E
              have hqe : ∃ q : Nat, ((o * k1 + c) * k2 + i) * k3 + j = q := ⟨_, (Int.toNat_of_nonneg (by omega)).symm⟩
              obtain ⟨q, hq⟩ := hqe
              have hql : q < n.data.xs.length := Int.ofNat_lt.1 (pos_lt hq.symm hdl ⟨hj0, hjk⟩ ⟨hi0, hii⟩ (lin_lt ⟨ho0, hok⟩ ⟨hc0, hck⟩))
              have hTp := hTat p q c i j hpT hpj ⟨hi0, hii⟩ ⟨hj0, hjk⟩ hq
              have hb := hatm _ (List.getElem_mem hpT)
              have hsu := rowP_succ (size := size) hpT
              rw [hTp] at hb hsu
              have hb2 : 0 ≤ (c * i1 + y + i) * i2 + x + j ∧ (c * i1 + y + i) * i2 + x + j < size := hb
              have hex : ∃ r : Nat, (c * i1 + y + i) * i2 + x + j = r := ⟨_, (Int.toNat_of_nonneg hb2.1).symm⟩
              obtain ⟨r, hr⟩ := hex
              rw [hr] at hsu hb2
              have hrl : r < size := Int.ofNat_lt.1 hb2.2
              clear hTat hatm hTp hTz hb hb2 hdl
              (repeat' ((conv => whnf) <;> first | (show idxK _ _ _ _ _; (first | refine idx_of _ 1 hut rfl (by omega) ?_ | refine idx_of _ 2 hut rfl (by omega) ?_ | refine idx_of _ 1 hus rfl (by omega) ?_ | refine idx_of _ 2 hus rfl (by omega) ?_ | refine idx_of _ 3 hus rfl (by omega) ?_ | refine idx_of _ q hud hq hql ?_)) | (show roK _ _ _; (first | refine ro_intv (fun R w' h => hur R w' h.1) (j := 1) (by omega) g1 ?_ | refine ro_intv (fun R w' h => hur R w' h.1) (j := 2) (by omega) g2 ?_ | refine ro_intv (fun R w' h => hsr R w' h.1) (j := 1) (by omega) s1 ?_ | refine ro_intv (fun R w' h => hsr R w' h.1) (j := 2) (by omega) s2 ?_ | refine ro_intv (fun R w' h => hsr R w' h.1) (j := 3) (by omega) s3 ?_ | refine ro_intv (fun R w' h => hdr R w' h.1) (j := q) hql rfl ?_)) | (show idxRowK _ _ _ _ _ _; (refine idxRow_of r hr hrl (by rw [ints_length, rowP_length]; exact Nat.le_refl _) ?_)) | (show rowStoreK _ _ _ _ _; (refine ints_store (by rw [rowP_length]; exact hrl) ?_)) | (show drawK _ 28 _ _ _ _ _ _; refine draw_tree tabOk mixed [25] _ dtJH0 (by kernel_rfl) (by kernel_rfl) (by kernel_rfl) (List.Sublist.refl _) ?_) | (show drawK _ 30 _ _ _ _ _ _; refine draw_tree tabOk mixed [] _ dtJH1 (by kernel_rfl) (by kernel_rfl) (by kernel_rfl) (List.Sublist.refl _) ?_) | (show drawK _ 52 _ _ _ _ _ _; refine draw_tree tabOk mixed [42] _ dtJH2 (by kernel_rfl) (by kernel_rfl) (by kernel_rfl) (List.Sublist.refl _) ?_) | (show drawK _ _ _ _ _ _ _ _; refine draw_quiet tabOk mixed (by kernel_rfl) ?_) | (show Wp _ _ _ _ _ _ _; refine Wp.go tabOk rfl ?_) | (show @cmpK _ _ _; (first | refine cmpY ?_ | refine cmpN ?_ | (refine cmp_both ?_ ?_ <;> intro _))) | (show wrapK _ _ _; refine wrapA ?_) | (show leK _ _ _; refine leA ?_) | (show roomK _ _ _; refine roomA ?_) | (show ltK _ _ _; refine ltA ?_) | (show _ ∧ _; refine ⟨?_, ?_⟩) | (show keepK _ _ _ _ _; refine keepA ?_) | refine own_keep ?_ | refine ap_old ?_))
              all_goals (conv => whnf)
              exact ⟨(j + 1, p + 1), [], ⟨⟨Int.le_add_one hj0, hjk⟩, by rw [Int.natCast_add, hpj, Int.add_assoc]; rfl⟩, by simp only; omega, rfl, ⟨rfl, rfl, rfl, rfl, rfl, rfl, rfl, rfl, rfl, rfl, rfl, rfl, rfl, trivial⟩, ⟨by
                show (7, Ent.rows (ints (rowP T size (p + 1))) 1 3) ∈ _
                rw [hsu]; exact (by repeat (first | exact List.mem_cons_self | apply List.mem_cons_of_mem)), (by repeat (first | exact List.mem_cons_self | apply List.mem_cons_of_mem)), (by repeat (first | exact List.mem_cons_self | apply List.mem_cons_of_mem)), (by repeat (first | exact List.mem_cons_self | apply List.mem_cons_of_mem)), trivial⟩, fun _ _ h => h⟩
            · have hjz : j = k3 := Int.le_antisymm hj1 (Int.not_lt.1 hjk)
              (repeat' ((conv => whnf) <;> first | (show idxK _ _ _ _ _; (first | refine idx_of _ 1 hut rfl (by omega) ?_ | refine idx_of _ 2 hut rfl (by omega) ?_ | refine idx_of _ 0 hus rfl (by omega) ?_ | refine idx_of _ 1 hus rfl (by omega) ?_ | refine idx_of _ 2 hus rfl (by omega) ?_ | refine idx_of _ 3 hus rfl (by omega) ?_)) | (show roK _ _ _; (first | refine ro_intv (fun R w' h => hur R w' h.1) (j := 1) (by omega) g1 ?_ | refine ro_intv (fun R w' h => hur R w' h.1) (j := 2) (by omega) g2 ?_ | refine ro_intv (fun R w' h => hsr R w' h.1) (j := 0) (by omega) s0 ?_ | refine ro_intv (fun R w' h => hsr R w' h.1) (j := 1) (by omega) s1 ?_ | refine ro_intv (fun R w' h => hsr R w' h.1) (j := 2) (by omega) s2 ?_ | refine ro_intv (fun R w' h => hsr R w' h.1) (j := 3) (by omega) s3 ?_)) | (show drawK _ 28 _ _ _ _ _ _; refine draw_tree tabOk mixed [25] _ dtJH0 (by kernel_rfl) (by kernel_rfl) (by kernel_rfl) (List.Sublist.refl _) ?_) | (show drawK _ 30 _ _ _ _ _ _; refine draw_tree tabOk mixed [] _ dtJH1 (by kernel_rfl) (by kernel_rfl) (by kernel_rfl) (List.Sublist.refl _) ?_) | (show drawK _ 52 _ _ _ _ _ _; refine draw_tree tabOk mixed [42] _ dtJH2 (by kernel_rfl) (by kernel_rfl) (by kernel_rfl) (List.Sublist.refl _) ?_) | (show drawK _ _ _ _ _ _ _ _; refine draw_quiet tabOk mixed (by kernel_rfl) ?_) | (show Wp _ _ _ _ _ _ _; refine Wp.go tabOk rfl ?_) | (show @cmpK _ _ _; (first | refine cmpY ?_ | refine cmpN ?_ | (refine cmp_both ?_ ?_ <;> intro _))) | (show wrapK _ _ _; refine wrapA ?_) | (show leK _ _ _; refine leA ?_) | (show roomK _ _ _; refine roomA ?_) | (show ltK _ _ _; refine ltA ?_) | (show _ ∧ _; refine ⟨?_, ?_⟩) | (show keepK _ _ _ _ _; refine keepA ?_) | refine own_keep ?_ | refine ap_old ?_))
              all_goals (conv => whnf)
              exact ⟨(i + 1, p), [], ⟨⟨Int.le_add_one hi0, hii⟩, by rw [hpj, hjz, ← Int.add_assoc, Int.add_mul _ 1, Int.one_mul]⟩, by simp only; omega, rfl, ⟨rfl, rfl, rfl, rfl, rfl, rfl, rfl, rfl, rfl, rfl, rfl, rfl, trivial⟩, ⟨(by repeat (first | exact List.mem_cons_self | apply List.mem_cons_of_mem)), (by repeat (first | exact List.mem_cons_self | apply List.mem_cons_of_mem)), (by repeat (first | exact List.mem_cons_self | apply List.mem_cons_of_mem)), (by repeat (first | exact List.mem_cons_self | apply List.mem_cons_of_mem)), trivial⟩, fun _ _ h => h⟩
          · have hiz : i = k2 := Int.le_antisymm hi1 (Int.not_lt.1 hii)
            (repeat' ((conv => whnf) <;> first | (show idxK _ _ _ _ _; (first | refine idx_of _ 1 hut rfl (by omega) ?_ | refine idx_of _ 2 hut rfl (by omega) ?_ | refine idx_of _ 0 hus rfl (by omega) ?_ | refine idx_of _ 1 hus rfl (by omega) ?_ | refine idx_of _ 2 hus rfl (by omega) ?_ | refine idx_of _ 3 hus rfl (by omega) ?_)) | (show roK _ _ _; (first | refine ro_intv (fun R w' h => hur R w' h.1) (j := 1) (by omega) g1 ?_ | refine ro_intv (fun R w' h => hur R w' h.1) (j := 2) (by omega) g2 ?_ | refine ro_intv (fun R w' h => hsr R w' h.1) (j := 0) (by omega) s0 ?_ | refine ro_intv (fun R w' h => hsr R w' h.1) (j := 1) (by omega) s1 ?_ | refine ro_intv (fun R w' h => hsr R w' h.1) (j := 2) (by omega) s2 ?_ | refine ro_intv (fun R w' h => hsr R w' h.1) (j := 3) (by omega) s3 ?_)) | (show drawK _ 28 _ _ _ _ _ _; refine draw_tree tabOk mixed [25] _ dtJH0 (by kernel_rfl) (by kernel_rfl) (by kernel_rfl) (List.Sublist.refl _) ?_) | (show drawK _ 30 _ _ _ _ _ _; refine draw_tree tabOk mixed [] _ dtJH1 (by kernel_rfl) (by kernel_rfl) (by kernel_rfl) (List.Sublist.refl _) ?_) | (show drawK _ 52 _ _ _ _ _ _; refine draw_tree tabOk mixed [42] _ dtJH2 (by kernel_rfl) (by kernel_rfl) (by kernel_rfl) (List.Sublist.refl _) ?_) | (show drawK _ _ _ _ _ _ _ _; refine draw_quiet tabOk mixed (by kernel_rfl) ?_) | (show Wp _ _ _ _ _ _ _; refine Wp.go tabOk rfl ?_) | (show @cmpK _ _ _; (first | refine cmpY ?_ | refine cmpN ?_ | (refine cmp_both ?_ ?_ <;> intro _))) | (show wrapK _ _ _; refine wrapA ?_) | (show leK _ _ _; refine leA ?_) | (show roomK _ _ _; refine roomA ?_) | (show ltK _ _ _; refine ltA ?_) | (show _ ∧ _; refine ⟨?_, ?_⟩) | (show keepK _ _ _ _ _; refine keepA ?_) | refine own_keep ?_ | refine ap_old ?_))
            all_goals (conv => whnf)
            exact ⟨(c + 1, p), [], ⟨⟨Int.le_add_one hc0, hck⟩, by rw [hpi, hiz, Int.add_mul c 1, Int.one_mul]⟩, by simp only; omega, rfl, ⟨rfl, rfl, rfl, rfl, rfl, rfl, rfl, rfl, rfl, rfl, rfl, trivial⟩, ⟨(by repeat (first | exact List.mem_cons_self | apply List.mem_cons_of_mem)), (by repeat (first | exact List.mem_cons_self | apply List.mem_cons_of_mem)), (by repeat (first | exact List.mem_cons_self | apply List.mem_cons_of_mem)), (by repeat (first | exact List.mem_cons_self | apply List.mem_cons_of_mem)), trivial⟩, fun _ _ h => h⟩
        · have hcz : c = k1 := Int.le_antisymm hc1 (Int.not_lt.1 hck)
          rw [hcz] at hpc
          have hpT : p = T.length := Int.ofNat.inj (hpc.trans hTz.symm)
          have hml : us.length = m := hso.rows.len
          have hbl2 : bs.length = m := hso.blen
          have hol : o.toNat < n.bias.xs.length := by omega
          have hoe : o = (o.toNat : Int) := (Int.toNat_of_nonneg ho0).symm
          refine Wp.freezeN 7 w.heap.size (k := 1) (xs := ints (rowP T size p)) (T := 3) (by repeat (first | exact List.mem_cons_self | apply List.mem_cons_of_mem)) (fun R w' h b hb => (h.1 b hb).1) (fun l1 hl1 => ?_)
          rw [ints_length, rowP_length] at hl1
          clear hcnt hTz hTat hatm hdl
          (repeat' ((conv => whnf) <;> first | (show @cmpK _ _ _; refine cmp_no hck ?_) | (show idxK _ _ _ _ _; (first | refine idx_of _ 1 hus rfl (by omega) ?_ | refine idx_of _ o.toNat hub hoe hol ?_)) | (show roK _ _ _; (first | refine ro_intv (fun R w' h => hsr R w' h.1.1) (j := 1) (by omega) s1 ?_ | refine ro_intv (fun R w' h => hbr R w' h.1.1) (j := o.toNat) hol rfl ?_)) | (show leK _ _ _; (first | refine le_of (by rw [shRows_length, hml]; exact Nat.le_refl _) ?_ | refine le_of (by rw [ints_length, hbl2]; exact Nat.le_refl _) ?_)) | (show roomK _ _ _; (first | refine room_of (by show (m + 1) * 24 ≤ 140737488355328; omega) ?_ | refine room_of (by show (m + 1) * 8 ≤ 140737488355328; omega) ?_)) | (show drawK _ 28 _ _ _ _ _ _; refine draw_tree tabOk mixed [25] _ dtJH0 (by kernel_rfl) (by kernel_rfl) (by kernel_rfl) (List.Sublist.refl _) ?_) | (show drawK _ 30 _ _ _ _ _ _; refine draw_tree tabOk mixed [] _ dtJH1 (by kernel_rfl) (by kernel_rfl) (by kernel_rfl) (List.Sublist.refl _) ?_) | (show drawK _ 52 _ _ _ _ _ _; refine draw_tree tabOk mixed [42] _ dtJH2 (by kernel_rfl) (by kernel_rfl) (by kernel_rfl) (List.Sublist.refl _) ?_) | (show drawK _ _ _ _ _ _ _ _; refine draw_quiet tabOk mixed (by kernel_rfl) ?_) | (show Wp _ _ _ _ _ _ _; refine Wp.go tabOk rfl ?_) | (show @cmpK _ _ _; (first | refine cmpY ?_ | refine cmpN ?_ | (refine cmp_both ?_ ?_ <;> intro _))) | (show wrapK _ _ _; refine wrapA ?_) | (show leK _ _ _; refine leA ?_) | (show roomK _ _ _; refine roomA ?_) | (show ltK _ _ _; refine ltA ?_) | (show _ ∧ _; refine ⟨?_, ?_⟩) | (show keepK _ _ _ _ _; refine keepA ?_) | refine own_keep ?_ | refine ap_old ?_))
          all_goals (conv => whnf)
          exact ⟨(x + 1, m + 1, us ++ [IntsV.mk l1.base l1.cap (rowP T size p)], bs ++ [n.bias.xs.getD o.toNat 0]), [(5, some 9), (6, some 11)], ⟨⟨Int.le_add_one hx0, hxi⟩, hso.next ⟨fun v hv => by have := rowP_bd hTb v hv; unfold bd20 at this; exact ⟨by omega, by omega⟩, by rw [rowP_length]; exact hl1, by rw [rowP_length]; omega⟩ (conv_row hk hsz m (hT.trans (by rw [g1, g2, s1, s2, s3])) hpT) hbi, by rw [Int.natCast_add, hmx, Int.add_assoc]; rfl⟩, by simp only; omega, rfl, ⟨rfl, rfl, rfl, rfl, rfl, rfl, rfl, rfl, rfl, trivial⟩, ⟨by repeat (first | exact rows_snocM us l1.base l1.cap (rowP T size p) hml.symm (rowP_length _ _ _).symm | apply List.mem_cons_of_mem), by repeat (first | exact ints_snocM bs _ hbl2.symm | apply List.mem_cons_of_mem), (by repeat (first | exact List.mem_cons_self | apply List.mem_cons_of_mem)), trivial⟩, fun R w' h => ⟨h.1.1, eachA_snoc h.1.2 h.2⟩⟩
      · have hxz : x = W := Int.le_antisymm hx1 (Int.not_lt.1 hxi)
        (repeat' ((conv => whnf) <;> first | (show idxK _ _ _ _ _; (first | refine idx_of _ 1 hut rfl (by omega) ?_ | refine idx_of _ 2 hut rfl (by omega) ?_ | refine idx_of _ 0 hus rfl (by omega) ?_ | refine idx_of _ 1 hus rfl (by omega) ?_ | refine idx_of _ 2 hus rfl (by omega) ?_ | refine idx_of _ 3 hus rfl (by omega) ?_)) | (show roK _ _ _; (first | refine ro_intv (fun R w' h => hur R w' h.1) (j := 1) (by omega) g1 ?_ | refine ro_intv (fun R w' h => hur R w' h.1) (j := 2) (by omega) g2 ?_ | refine ro_intv (fun R w' h => hsr R w' h.1) (j := 0) (by omega) s0 ?_ | refine ro_intv (fun R w' h => hsr R w' h.1) (j := 1) (by omega) s1 ?_ | refine ro_intv (fun R w' h => hsr R w' h.1) (j := 2) (by omega) s2 ?_ | refine ro_intv (fun R w' h => hsr R w' h.1) (j := 3) (by omega) s3 ?_)) | (show drawK _ 28 _ _ _ _ _ _; refine draw_tree tabOk mixed [25] _ dtJH0 (by kernel_rfl) (by kernel_rfl) (by kernel_rfl) (List.Sublist.refl _) ?_) | (show drawK _ 30 _ _ _ _ _ _; refine draw_tree tabOk mixed [] _ dtJH1 (by kernel_rfl) (by kernel_rfl) (by kernel_rfl) (List.Sublist.refl _) ?_) | (show drawK _ 52 _ _ _ _ _ _; refine draw_tree tabOk mixed [42] _ dtJH2 (by kernel_rfl) (by kernel_rfl) (by kernel_rfl) (List.Sublist.refl _) ?_) | (show drawK _ _ _ _ _ _ _ _; refine draw_quiet tabOk mixed (by kernel_rfl) ?_) | (show Wp _ _ _ _ _ _ _; refine Wp.go tabOk rfl ?_) | (show @cmpK _ _ _; (first | refine cmpY ?_ | refine cmpN ?_ | (refine cmp_both ?_ ?_ <;> intro _))) | (show wrapK _ _ _; refine wrapA ?_) | (show leK _ _ _; refine leA ?_) | (show roomK _ _ _; refine roomA ?_) | (show ltK _ _ _; refine ltA ?_) | (show _ ∧ _; refine ⟨?_, ?_⟩) | (show keepK _ _ _ _ _; refine keepA ?_) | refine own_keep ?_ | refine ap_old ?_))
        all_goals (conv => whnf)
        exact ⟨(y + 1, m, us, bs), [(3, some 5), (4, some 6)], ⟨⟨Int.le_add_one hy0, hyi⟩, hso, by rw [hmx, hxz, ← Int.add_assoc, Int.add_mul _ 1, Int.one_mul]⟩, by simp only; omega, rfl, ⟨rfl, rfl, rfl, rfl, rfl, rfl, rfl, rfl, trivial⟩, ⟨(by repeat (first | exact List.mem_cons_self | apply List.mem_cons_of_mem)), (by repeat (first | exact List.mem_cons_self | apply List.mem_cons_of_mem)), (by repeat (first | exact List.mem_cons_self | apply List.mem_cons_of_mem)), trivial⟩, fun _ _ h => h⟩
    · have hyz : y = H := Int.le_antisymm hy1 (Int.not_lt.1 hyi)
      (repeat' ((conv => whnf) <;> first | (show idxK _ _ _ _ _; (first | refine idx_of _ 1 hut rfl (by omega) ?_ | refine idx_of _ 2 hut rfl (by omega) ?_ | refine idx_of _ 0 hus rfl (by omega) ?_ | refine idx_of _ 1 hus rfl (by omega) ?_ | refine idx_of _ 2 hus rfl (by omega) ?_ | refine idx_of _ 3 hus rfl (by omega) ?_)) | (show roK _ _ _; (first | refine ro_intv (fun R w' h => hur R w' h.1) (j := 1) (by omega) g1 ?_ | refine ro_intv (fun R w' h => hur R w' h.1) (j := 2) (by omega) g2 ?_ | refine ro_intv (fun R w' h => hsr R w' h.1) (j := 0) (by omega) s0 ?_ | refine ro_intv (fun R w' h => hsr R w' h.1) (j := 1) (by omega) s1 ?_ | refine ro_intv (fun R w' h => hsr R w' h.1) (j := 2) (by omega) s2 ?_ | refine ro_intv (fun R w' h => hsr R w' h.1) (j := 3) (by omega) s3 ?_)) | (show drawK _ 28 _ _ _ _ _ _; refine draw_tree tabOk mixed [25] _ dtJH0 (by kernel_rfl) (by kernel_rfl) (by kernel_rfl) (List.Sublist.refl _) ?_) | (show drawK _ 30 _ _ _ _ _ _; refine draw_tree tabOk mixed [] _ dtJH1 (by kernel_rfl) (by kernel_rfl) (by kernel_rfl) (List.Sublist.refl _) ?_) | (show drawK _ 52 _ _ _ _ _ _; refine draw_tree tabOk mixed [42] _ dtJH2 (by kernel_rfl) (by kernel_rfl) (by kernel_rfl) (List.Sublist.refl _) ?_) | (show drawK _ _ _ _ _ _ _ _; refine draw_quiet tabOk mixed (by kernel_rfl) ?_) | (show Wp _ _ _ _ _ _ _; refine Wp.go tabOk rfl ?_) | (show @cmpK _ _ _; (first | refine cmpY ?_ | refine cmpN ?_ | (refine cmp_both ?_ ?_ <;> intro _))) | (show wrapK _ _ _; refine wrapA ?_) | (show leK _ _ _; refine leA ?_) | (show roomK _ _ _; refine roomA ?_) | (show ltK _ _ _; refine ltA ?_) | (show _ ∧ _; refine ⟨?_, ?_⟩) | (show keepK _ _ _ _ _; refine keepA ?_) | refine own_keep ?_ | refine ap_old ?_))
      all_goals (conv => whnf)
      exact ⟨(o + 1, m, us, bs), [(1, some 3), (2, some 4)], ⟨⟨Int.le_add_one ho0, hok⟩, hso, by rw [hmy, hyz, Int.add_mul o 1, Int.one_mul]⟩, by simp only; omega, rfl, ⟨rfl, rfl, rfl, rfl, rfl, rfl, rfl, trivial⟩, ⟨(by repeat (first | exact List.mem_cons_self | apply List.mem_cons_of_mem)), (by repeat (first | exact List.mem_cons_self | apply List.mem_cons_of_mem)), (by repeat (first | exact List.mem_cons_self | apply List.mem_cons_of_mem)), trivial⟩, fun _ _ h => h⟩
  · have hoz : o = k0 := Int.le_antisymm ho1 (Int.not_lt.1 hok)
    rw [hoz] at hmo
    have hmcnt : m = cnt := Int.ofNat.inj (hmo.trans hcnt.symm)
    subst hmcnt
    (repeat' ((conv => whnf) <;> first | (show idxK _ _ _ _ _; (first | refine idx_of _ 1 hut rfl (by omega) ?_ | refine idx_of _ 2 hut rfl (by omega) ?_ | refine idx_of _ 0 hus rfl (by omega) ?_ | refine idx_of _ 1 hus rfl (by omega) ?_ | refine idx_of _ 2 hus rfl (by omega) ?_ | refine idx_of _ 3 hus rfl (by omega) ?_)) | (show roK _ _ _; (first | refine ro_intv (fun R w' h => hur R w' h.1) (j := 1) (by omega) g1 ?_ | refine ro_intv (fun R w' h => hur R w' h.1) (j := 2) (by omega) g2 ?_ | refine ro_intv (fun R w' h => hsr R w' h.1) (j := 0) (by omega) s0 ?_ | refine ro_intv (fun R w' h => hsr R w' h.1) (j := 1) (by omega) s1 ?_ | refine ro_intv (fun R w' h => hsr R w' h.1) (j := 2) (by omega) s2 ?_ | refine ro_intv (fun R w' h => hsr R w' h.1) (j := 3) (by omega) s3 ?_)) | (show drawK _ 28 _ _ _ _ _ _; refine draw_tree tabOk mixed [25] _ dtJH0 (by kernel_rfl) (by kernel_rfl) (by kernel_rfl) (List.Sublist.refl _) ?_) | (show drawK _ 30 _ _ _ _ _ _; refine draw_tree tabOk mixed [] _ dtJH1 (by kernel_rfl) (by kernel_rfl) (by kernel_rfl) (List.Sublist.refl _) ?_) | (show drawK _ 52 _ _ _ _ _ _; refine draw_tree tabOk mixed [42] _ dtJH2 (by kernel_rfl) (by kernel_rfl) (by kernel_rfl) (List.Sublist.refl _) ?_) | (show drawK _ _ _ _ _ _ _ _; refine draw_quiet tabOk mixed (by kernel_rfl) ?_) | (show Wp _ _ _ _ _ _ _; refine Wp.go tabOk rfl ?_) | (show @cmpK _ _ _; (first | refine cmpY ?_ | refine cmpN ?_ | (refine cmp_both ?_ ?_ <;> intro _))) | (show wrapK _ _ _; refine wrapA ?_) | (show leK _ _ _; refine leA ?_) | (show roomK _ _ _; refine roomA ?_) | (show ltK _ _ _; refine ltA ?_) | (show _ ∧ _; refine ⟨?_, ?_⟩) | (show keepK _ _ _ _ _; refine keepA ?_) | refine own_keep ?_ | refine ap_old ?_))
    all_goals (conv => whnf)
    exact mat_end_new (i := 1) (j := 2) (B := ⟨w, []⟩) (S := (baseA w).and (eachA w.heap.size us)) (bs := bs) (fun _ _ h => h.1) (fun _ _ h => h.2) rfl (by repeat (first | exact List.mem_cons_self | apply List.mem_cons_of_mem)) (by repeat (first | exact List.mem_cons_self | apply List.mem_cons_of_mem)) hso.rows.len.symm hso.blen.symm hso.rows hso.bias (fun x hx => by
      rw [hso.bias] at hx
      obtain ⟨k, _, rfl⟩ := List.mem_map.1 hx
      have : bd20 (biasI n m k) := by
        unfold biasI
        rw [if_neg (by omega), if_pos hk]
        exact getD_bd hbb _
      unfold bd20 at this
      exact ⟨by omega, by omega⟩) (by rw [hso.blen]; omega)
end Go.Proofs.Ytdmkdogakbipbaa

/- JM -/
namespace Go.Proofs.Ytdmkdogakbipbaa
open Go.SX Go.RowKit
set_option maxHeartbeats 1000000 in
theorem mat_all (w : World) (n : NodeV) (sh : List (List Int)) (s : List Int) (t : IntsV) (cnt : Nat) (h : PlaceIn n sh s t.xs cnt) (hl : isLin n) (hno : n.ok w) (hto : t.ok w) : Calls Try.prog 66 #[n.valA, t.val] w (MatPost w n t.xs cnt) := by
  obtain ⟨F, P0, hL⟩ := h.lin hl
  have hat := hL.at_
  have hsh := h.node.shape
  have hfo := formed_of h.node.form
  have h4 := form4 h.node.form
  obtain ⟨nd, nb, _, _, _⟩ := near_in h.node.near
  have heb := (entries_bd t.xs).2
  have hc := h.cnt
  have hfew := h.few
  have hgs := h.pos
  obtain ⟨ht, hg⟩ := h.first hl
  obtain ⟨size, hsz⟩ : ∃ size : Nat, entries t.xs = size := ⟨(entries t.xs).toNat, by omega⟩
  rcases hl with hk | hk | hk
  · unfold shapeO at hsh
    rw [if_neg (by omega), if_pos hk, ht] at hsh
    by_cases hdl : (n.data.xs.length : Int) = n.bias.xs.length * entries t.xs
    · rw [if_pos hdl, Option.some.injEq] at hsh
      obtain ⟨b1, b2⟩ := hfo.bias hk
      have he1 : entries [(n.bias.xs.length : Int)] = n.bias.xs.length := by
        unfold entries
        rw [if_neg (by simp)]
        simp only [entLoop]
        rw [if_neg (by omega)]
        omega
      rw [← hsh, he1] at hc
      have hbl : n.bias.xs.length = cnt := by omega
      have hdl' : n.data.xs.length = n.bias.xs.length * size := by
        rw [hsz, ← Int.natCast_mul] at hdl
        exact Int.ofNat.inj hdl
      rw [hbl] at hdl'
      exact mat_dense w n t hto hno hk size cnt hsz (by omega) hbl hfew hdl'
    · rw [if_neg hdl] at hsh; cases hsh
  · obtain ⟨g1, g2⟩ := h4 hk
    have hker := hfo.kern hk
    obtain ⟨hl4, hdim⟩ := kernel_dims hker
    have hsx := list4 hl4
    have hC := conv_in h hk
    unfold shapeO at hsh
    rw [if_neg (by omega), if_neg (by omega), if_pos hk, ht] at hsh
    have hG : ∀ o, termsG n t.xs o = convT n.data.xs (n.shape.xs.getD 1 0) (n.shape.xs.getD 2 0) (n.shape.xs.getD 3 0) (t.xs.getD 1 0) (t.xs.getD 2 0) o := fun o => by unfold termsG; rw [if_neg (by omega), if_pos hk]
    have dm : ∀ k, k < 4 → 1 ≤ n.shape.xs.getD k 0 ∧ n.shape.xs.getD k 0 ≤ 64 := fun k hk => hdim _ (getD_mem (by omega))
    have dm0 := dm 0 (by decide)
    have dm1 := dm 1 (by decide)
    have dm2 := dm 2 (by decide)
    have dm3 := dm 3 (by decide)
    rw [hsx] at g1 hker
    have hke := kernel4I hker
    rw [hke] at g1
    by_cases hbad : t.xs.length ≠ 3 ∨ t.xs.getD 0 0 ≠ n.shape.xs.getD 1 0 ∨ t.xs.getD 1 0 < n.shape.xs.getD 2 0 ∨ t.xs.getD 2 0 < n.shape.xs.getD 3 0
    · rw [if_pos hbad] at hsh; cases hsh
    rw [if_neg hbad] at hsh
    have hl3 : t.xs.length = 3 := by omega
    have htx := len3 hl3
    have h0 : t.xs.getD 0 0 = n.shape.xs.getD 1 0 := by omega
    rw [h0] at htx
    have tdm := (entries_dims hg).2.2
    have td1 := tdm _ (getD_mem (xs := t.xs) (k := 1) (by omega))
    have td2 := tdm _ (getD_mem (xs := t.xs) (k := 2) (by omega))
    by_cases hpos : 0 < entries [n.shape.xs.getD 0 0, t.xs.getD 1 0 - n.shape.xs.getD 2 0 + 1, t.xs.getD 2 0 - n.shape.xs.getD 3 0 + 1]
    · rw [if_pos hpos, Option.some.injEq] at hsh
      have hcv := entries3_valI hpos
      rw [hsh, hc] at hcv
      exact mat_conv w n t hto hno hk size cnt _ _ _ _ _ _ hsx htx hsz (by omega) dm0 dm1 hC.k2 hC.k3 td1.2 td2.2 g1 g2 nd nb hcv hfew.2 fun o ho x hx => by
        have := hat o ho x (by rw [hG]; exact hx)
        rw [hsz] at this
        exact this
    · rw [if_neg hpos] at hsh; cases hsh
  · have hP := pool_in h hk
    unfold shapeO at hsh
    rw [if_neg (by omega), if_neg (by omega), if_neg (by omega), if_pos hk, ht] at hsh
    have hG : ∀ o, termsG n t.xs o = poolT n.size (t.xs.getD 1 0) (t.xs.getD 2 0) o := fun o => by unfold termsG; rw [if_neg (by omega), if_neg (by omega)]
    by_cases hbad : t.xs.length ≠ 3 ∨ t.xs.getD 1 0 % n.size ≠ 0 ∨ t.xs.getD 2 0 % n.size ≠ 0
    · rw [if_pos hbad] at hsh; cases hsh
    rw [if_neg hbad, Option.some.injEq] at hsh
    have hl3 : t.xs.length = 3 := by omega
    have htx := len3 hl3
    have tdm := (entries_dims hg).2.2
    have td0 := tdm _ (getD_mem (xs := t.xs) (k := 0) (by omega))
    have td1 := tdm _ (getD_mem (xs := t.xs) (k := 1) (by omega))
    have td2 := tdm _ (getD_mem (xs := t.xs) (k := 2) (by omega))
    have hpos : 0 < entries [t.xs.getD 0 0, t.xs.getD 1 0 / n.size, t.xs.getD 2 0 / n.size] := by
      have := shape_good hfo hgs h.node.shape rfl
      rw [hsh]; exact this
    have hcv := entries3_valI hpos
    rw [hsh, hc] at hcv
    exact mat_pool w n t hto hno hk size cnt _ _ _ htx hsz (by omega) td0 ⟨hP.z1, td1.2⟩ ⟨hP.z2, td2.2⟩ hP.z hP.m1 hP.m2 hcv hfew.2 fun o ho x hx => by
      have := hat o ho x (by rw [hG]; exact hx)
      rw [hsz] at this
      exact this
end Go.Proofs.Ytdmkdogakbipbaa

/- MG -/
namespace Go.Proofs.Ytdmkdogakbipbaa
open Go.SX Go.RowKit
def wgtI (n : NodeV) (tl : List Int) (o i : Int) : Int :=
  if n.kind = 3 then n.data.xs.getD (o * entries tl + i).toNat 0
  else if n.kind = 4 then
    (let y := i / tl.getD 2 0 % tl.getD 1 0 - o / (tl.getD 2 0 - n.shape.xs.getD 3 0 + 1) % (tl.getD 1 0 - n.shape.xs.getD 2 0 + 1)
     let x := i % tl.getD 2 0 - o % (tl.getD 2 0 - n.shape.xs.getD 3 0 + 1)
     if y < 0 ∨ n.shape.xs.getD 2 0 ≤ y ∨ x < 0 ∨ n.shape.xs.getD 3 0 ≤ x then 0
     else n.data.xs.getD (((o / (tl.getD 2 0 - n.shape.xs.getD 3 0 + 1) / (tl.getD 1 0 - n.shape.xs.getD 2 0 + 1) * n.shape.xs.getD 1 0 + i / tl.getD 2 0 / tl.getD 1 0) * n.shape.xs.getD 2 0 + y) * n.shape.xs.getD 3 0 + x).toNat 0)
  else if i / tl.getD 2 0 / tl.getD 1 0 ≠ o / (tl.getD 2 0 / n.size) / (tl.getD 1 0 / n.size) ∨ i / tl.getD 2 0 % tl.getD 1 0 / n.size ≠ o / (tl.getD 2 0 / n.size) % (tl.getD 1 0 / n.size) ∨ i % tl.getD 2 0 / n.size ≠ o % (tl.getD 2 0 / n.size) then 0 else 1
theorem setT_other {r : List Int} {x : Sp} {i : Nat} (h : x.2.toNat ≠ i) : (setT r x).getD i 0 = r.getD i 0 := by simp [setT, List.getD, List.getElem?_set_ne h]
theorem fold_miss : ∀ (T : List Sp) (r : List Int) (i : Nat), (∀ x ∈ T, x.2.toNat ≠ i) → (T.foldl setT r).getD i 0 = r.getD i 0
  | [], _, _, _ => rfl
  | x :: T, r, i, h => by
    rw [List.foldl_cons, fold_miss T _ i (fun y hy => h y (List.mem_cons_of_mem _ hy)), setT_other (h x List.mem_cons_self)]
theorem fold_hit : ∀ (T : List Sp) (r : List Int) (i : Nat) (x : Sp), i < r.length → x ∈ T → x.2.toNat = i → (∀ y ∈ T, y.2.toNat = i → y.1 = x.1) → (T.foldl setT r).getD i 0 = x.1
  | [], _, _, _, _, h, _, _ => by cases h
  | z :: T, r, i, x, hl, hx, he, hu => by
    rw [List.foldl_cons]
    by_cases hex : ∃ y ∈ T, y.2.toNat = i
    · obtain ⟨y, hy, hyi⟩ := hex
      have h1 := fold_hit T (setT r z) i y (by rw [setT, List.length_set]; exact hl) hy hyi (fun u hu' hui => (hu u (List.mem_cons_of_mem _ hu') hui).trans (hu y (List.mem_cons_of_mem _ hy) hyi).symm)
      rw [h1]; exact hu y (List.mem_cons_of_mem _ hy) hyi
    · rw [fold_miss T _ i (fun y hy e => hex ⟨y, hy, e⟩)]
      have hzx : x = z := by
        rcases List.mem_cons.1 hx with g | g
        · exact g
        · exact absurd ⟨x, g, he⟩ hex
      subst hzx
      simp [setT, List.getD, he, hl]
theorem repl_getD (n i : Nat) : (List.replicate n (0 : Int)).getD i 0 = 0 := by
  simp only [List.getD, List.getElem?_replicate]; split <;> rfl
theorem pos_split {i I1 I2 : Int} (h0 : 0 ≤ i) (h1 : 0 < I1) (h2 : 0 < I2) : i = (i / I2 / I1 * I1 + i / I2 % I1) * I2 + i % I2 ∧ (0 ≤ i % I2 ∧ i % I2 < I2) ∧ (0 ≤ i / I2 % I1 ∧ i / I2 % I1 < I1) ∧ 0 ≤ i / I2 / I1 := by
  have e1 := Int.mul_ediv_add_emod i I2
  have e2 := Int.mul_ediv_add_emod (i / I2) I1
  have g0 : 0 ≤ i / I2 := Int.ediv_nonneg h0 (by omega)
  refine ⟨?_, ⟨Int.emod_nonneg _ (by omega), Int.emod_lt_of_pos _ h2⟩, ⟨Int.emod_nonneg _ (by omega), Int.emod_lt_of_pos _ h1⟩, Int.ediv_nonneg g0 (by omega)⟩
  have e3 : i / I2 / I1 * I1 + i / I2 % I1 = i / I2 := by rw [Int.mul_comm]; exact e2
  rw [e3, Int.mul_comm]; exact e1.symm
theorem div_lt_of {a b c : Int} (hb : 0 < b) (h : a < c * b) : a / b < c := Int.ediv_lt_of_lt_mul hb h
/-- a row of a convolution, at an entry -/
theorem conv_at_row {d : List Int} {k1 k2 k3 i1 i2 o i : Int} {E : Nat} (hk2 : 1 ≤ k2 ∧ k2 ≤ i1) (hk3 : 1 ≤ k3 ∧ k3 ≤ i2) (hE : (E : Int) = k1 * i1 * i2) (hi : 0 ≤ i ∧ i < E) (ho : 0 ≤ o) :
    ((convT d k1 k2 k3 i1 i2 o).foldl setT (List.replicate E 0)).getD i.toNat 0 =
      (if i / i2 % i1 - o / (i2 - k3 + 1) % (i1 - k2 + 1) < 0 ∨ k2 ≤ i / i2 % i1 - o / (i2 - k3 + 1) % (i1 - k2 + 1) ∨ i % i2 - o % (i2 - k3 + 1) < 0 ∨ k3 ≤ i % i2 - o % (i2 - k3 + 1) then 0
       else d.getD (((o / (i2 - k3 + 1) / (i1 - k2 + 1) * k1 + i / i2 / i1) * k2 + (i / i2 % i1 - o / (i2 - k3 + 1) % (i1 - k2 + 1))) * k3 + (i % i2 - o % (i2 - k3 + 1))).toNat 0) := by
  have h1 : 0 < i1 := by omega
  have h2 : 0 < i2 := by omega
  obtain ⟨ei, bx, by_, bc⟩ := pos_split hi.1 h1 h2
  obtain ⟨eo, ox, oy, oc⟩ := pos_split (i := o) (I1 := i1 - k2 + 1) (I2 := i2 - k3 + 1) ho (by omega) (by omega)
  obtain ⟨c, hc⟩ : ∃ c, i / i2 / i1 = c := ⟨_, rfl⟩
  obtain ⟨fy, hfy⟩ : ∃ c, i / i2 % i1 = c := ⟨_, rfl⟩
  obtain ⟨fx, hfx⟩ : ∃ c, i % i2 = c := ⟨_, rfl⟩
  obtain ⟨tc, htc⟩ : ∃ c, o / (i2 - k3 + 1) / (i1 - k2 + 1) = c := ⟨_, rfl⟩
  obtain ⟨ty, hty⟩ : ∃ c, o / (i2 - k3 + 1) % (i1 - k2 + 1) = c := ⟨_, rfl⟩
  obtain ⟨tx, htx⟩ : ∃ c, o % (i2 - k3 + 1) = c := ⟨_, rfl⟩
  rw [hc, hfy, hfx] at ei
  rw [hfy] at by_
  rw [hfx] at bx
  rw [hc] at bc
  rw [htc] at oc
  rw [hty] at oy
  rw [htx] at ox
  rw [hc, hfy, hfx, htc, hty, htx]
  have hck : c < k1 := by
    have h3 : i / i2 < k1 * i1 := div_lt_of h2 (by rw [← hE]; exact hi.2)
    rw [← hc]; exact div_lt_of h1 h3
  have term : ∀ x ∈ convT d k1 k2 k3 i1 i2 o, x.2.toNat = i.toNat → ∃ p : Nat, x = convTerm d k1 k2 k3 i1 i2 o p ∧ (p : Int) / k3 / k2 = c ∧ ty + (p : Int) / k3 % k2 = fy ∧ tx + (p : Int) % k3 = fx := by
    intro x hx hxi
    obtain ⟨p, hp, rfl⟩ := List.mem_map.1 hx
    obtain ⟨ep, px, py, pc⟩ := pos_split (i := (p : Int)) (I1 := k2) (I2 := k3) (by omega) (by omega) (by omega)
    refine ⟨p, rfl, ?_⟩
    have hpos : (convTerm d k1 k2 k3 i1 i2 o p).2 = (((p : Int) / k3 / k2 * i1 + (ty + (p : Int) / k3 % k2)) * i2 + (tx + (p : Int) % k3)) := by
      unfold convTerm
      rw [hty, htx]
      simp only
      rw [← Int.add_assoc, ← Int.add_assoc]
    have hnn : 0 ≤ (convTerm d k1 k2 k3 i1 i2 o p).2 := by
      rw [hpos]
      have := Int.mul_nonneg (show 0 ≤ (p : Int) / k3 / k2 * i1 + (ty + (p : Int) / k3 % k2) by have := Int.mul_nonneg pc (show 0 ≤ i1 by omega); omega) (show 0 ≤ i2 by omega)
      omega
    have he : i = (((p : Int) / k3 / k2 * i1 + (ty + (p : Int) / k3 % k2)) * i2 + (tx + (p : Int) % k3)) := by rw [← hpos]; omega
    have := pos3 he ⟨by omega, by omega⟩ ⟨by omega, by omega⟩
    rw [hc, hfy, hfx] at this
    exact ⟨this.1.symm, this.2.1.symm, this.2.2.symm⟩
  split
  · rename_i hbad
    rw [fold_miss, repl_getD]
    intro x hx hxi
    obtain ⟨p, rfl, g1, g2, g3⟩ := term x hx hxi
    obtain ⟨ep, px, py, pc⟩ := pos_split (i := (p : Int)) (I1 := k2) (I2 := k3) (by omega) (by omega) (by omega)
    omega
  · rename_i hgood
    obtain ⟨y, hy⟩ : ∃ y, fy - ty = y := ⟨_, rfl⟩
    obtain ⟨x, hx⟩ : ∃ x, fx - tx = x := ⟨_, rfl⟩
    rw [hy, hx] at hgood ⊢
    have hcy : 0 ≤ c * k2 + y := by have := Int.mul_nonneg bc (show 0 ≤ k2 by omega); omega
    have hp0 : 0 ≤ (c * k2 + y) * k3 + x := by have := Int.mul_nonneg hcy (show 0 ≤ k3 by omega); omega
    obtain ⟨p, hp⟩ := Int.eq_ofNat_of_zero_le hp0
    have hp3 := pos3 (o := (p : Int)) (c := c) (y := y) (x := x) (H := k2) (W := k3) hp.symm ⟨by omega, by omega⟩ ⟨by omega, by omega⟩
    have hlt : (p : Int) < k1 * k2 * k3 := by
      rw [← hp]
      have a1 : (c + 1) * k2 ≤ k1 * k2 := Int.mul_le_mul_of_nonneg_right (by omega) (by omega)
      rw [Int.add_mul, Int.one_mul] at a1
      have a2 : (c * k2 + y + 1) * k3 ≤ k1 * k2 * k3 := Int.mul_le_mul_of_nonneg_right (by omega) (by omega)
      rw [Int.add_mul, Int.one_mul] at a2
      omega
    have hmem : convTerm d k1 k2 k3 i1 i2 o p ∈ convT d k1 k2 k3 i1 i2 o := List.mem_map.2 ⟨p, List.mem_range.2 (by omega), rfl⟩
    have hval : ∀ q : Nat, (q : Int) / k3 / k2 = c → ty + (q : Int) / k3 % k2 = fy → tx + (q : Int) % k3 = fx → (convTerm d k1 k2 k3 i1 i2 o q).1 = d.getD (((tc * k1 + c) * k2 + y) * k3 + x).toNat 0 ∧ (convTerm d k1 k2 k3 i1 i2 o q).2 = i := by
      intro q g1 g2 g3
      obtain ⟨eq, qx, qy, qc⟩ := pos_split (i := (q : Int)) (I1 := k2) (I2 := k3) (by omega) (by omega) (by omega)
      rw [g1] at eq
      have e1 : (q : Int) / k3 % k2 = y := by omega
      have e2 : (q : Int) % k3 = x := by omega
      rw [e1, e2] at eq
      unfold convTerm
      rw [htc, hty, htx, g1, e1, e2]
      constructor
      · simp only
        congr 2
        rw [eq]; grind
      · simp only
        rw [ei, ← hy] at *
        have : fx = tx + x := by omega
        grind
    have hpv := hval p hp3.1 (by rw [hp3.2.1]; omega) (by rw [hp3.2.2]; omega)
    rw [fold_hit _ _ _ (convTerm d k1 k2 k3 i1 i2 o p) (by rw [List.length_replicate]; omega) hmem (by rw [hpv.2]) (fun u hu hui => ?_)]
    · exact hpv.1
    · obtain ⟨q, rfl, g1, g2, g3⟩ := term u hu hui
      rw [(hval q g1 g2 g3).1, hpv.1]
end Go.Proofs.Ytdmkdogakbipbaa

/- MH -/
namespace Go.Proofs.Ytdmkdogakbipbaa
open Go.SX Go.RowKit
theorem mul_div_mod {a b z : Int} (hz : 0 < z) (hb : 0 ≤ b ∧ b < z) : (a * z + b) / z = a ∧ (a * z + b) % z = b := mul_add_div hb
/-- a row of a pool, at an entry -/
theorem pool_at_row {z i1 i2 o i : Int} {E : Nat} (hz : 1 ≤ z) (h1 : z ≤ i1) (h2 : z ≤ i2) (m1 : i1 % z = 0) (m2 : i2 % z = 0) (hi : 0 ≤ i ∧ i < E) (ho : 0 ≤ o) :
    ((poolT z i1 i2 o).foldl setT (List.replicate E 0)).getD i.toNat 0 =
      (if i / i2 / i1 ≠ o / (i2 / z) / (i1 / z) ∨ i / i2 % i1 / z ≠ o / (i2 / z) % (i1 / z) ∨ i % i2 / z ≠ o % (i2 / z) then 0 else 1) := by
  have q1 := Int.mul_ediv_add_emod i1 z
  have q2 := Int.mul_ediv_add_emod i2 z
  obtain ⟨H, hH⟩ : ∃ H, i1 / z = H := ⟨_, rfl⟩
  obtain ⟨W, hW⟩ : ∃ W, i2 / z = W := ⟨_, rfl⟩
  rw [hH] at q1 ⊢
  rw [hW] at q2 ⊢
  have e1 : i1 = H * z := by rw [Int.mul_comm]; omega
  have e2 : i2 = W * z := by rw [Int.mul_comm]; omega
  have hH1 : 0 < H := by rw [← hH]; exact Int.ediv_pos_of_pos_of_dvd (by omega) (by omega) (Int.dvd_of_emod_eq_zero m1)
  have hW1 : 0 < W := by rw [← hW]; exact Int.ediv_pos_of_pos_of_dvd (by omega) (by omega) (Int.dvd_of_emod_eq_zero m2)
  obtain ⟨ei, bx, by_, bc⟩ := pos_split (i := i) (I1 := i1) (I2 := i2) hi.1 (by omega) (by omega)
  obtain ⟨eo, ox, oy, oc⟩ := pos_split (i := o) (I1 := H) (I2 := W) ho hH1 hW1
  obtain ⟨c, hc⟩ : ∃ c, i / i2 / i1 = c := ⟨_, rfl⟩
  obtain ⟨fy, hfy⟩ : ∃ c, i / i2 % i1 = c := ⟨_, rfl⟩
  obtain ⟨fx, hfx⟩ : ∃ c, i % i2 = c := ⟨_, rfl⟩
  obtain ⟨tc, htc⟩ : ∃ c, o / W / H = c := ⟨_, rfl⟩
  obtain ⟨ty, hty⟩ : ∃ c, o / W % H = c := ⟨_, rfl⟩
  obtain ⟨tx, htx⟩ : ∃ c, o % W = c := ⟨_, rfl⟩
  rw [hc, hfy, hfx] at ei
  rw [hfy] at by_
  rw [hfx] at bx
  rw [hc] at bc
  rw [htc] at oc
  rw [hty] at oy
  rw [htx] at ox
  rw [hc, hfy, hfx, htc, hty, htx]
  have hty' : ty * z + z ≤ i1 := by
    have := Int.mul_le_mul_of_nonneg_right (show ty + 1 ≤ H by omega) (show 0 ≤ z by omega)
    rw [Int.add_mul, Int.one_mul, ← e1] at this; exact this
  have htx' : tx * z + z ≤ i2 := by
    have := Int.mul_le_mul_of_nonneg_right (show tx + 1 ≤ W by omega) (show 0 ≤ z by omega)
    rw [Int.add_mul, Int.one_mul, ← e2] at this; exact this
  have hty0 : 0 ≤ ty * z := Int.mul_nonneg oy.1 (by omega)
  have htx0 : 0 ≤ tx * z := Int.mul_nonneg ox.1 (by omega)
  have term : ∀ x ∈ poolT z i1 i2 o, x.1 = 1 ∧ (x.2.toNat = i.toNat → tc = c ∧ fy / z = ty ∧ fx / z = tx) := by
    intro x hx
    obtain ⟨p, hp, rfl⟩ := List.mem_map.1 hx
    refine ⟨rfl, fun hxi => ?_⟩
    have hpz : (p : Int) < z * z := by have := List.mem_range.1 hp; omega
    have py : 0 ≤ (p : Int) / z ∧ (p : Int) / z < z := ⟨Int.ediv_nonneg (by omega) (by omega), div_lt_of (by omega) hpz⟩
    have px : 0 ≤ (p : Int) % z ∧ (p : Int) % z < z := ⟨Int.emod_nonneg _ (by omega), Int.emod_lt_of_pos _ (by omega)⟩
    have hpos : (poolTerm z i1 i2 o p).2 = ((tc * i1 + (ty * z + (p : Int) / z)) * i2 + (tx * z + (p : Int) % z)) := by
      unfold poolTerm
      rw [hH, hW, htc, hty, htx]
      simp only
      rw [← Int.add_assoc, ← Int.add_assoc]
    have hnn : 0 ≤ (poolTerm z i1 i2 o p).2 := by
      rw [hpos]
      have := Int.mul_nonneg (show 0 ≤ tc * i1 + (ty * z + (p : Int) / z) by have := Int.mul_nonneg oc (show 0 ≤ i1 by omega); omega) (show 0 ≤ i2 by omega)
      omega
    have he : i = ((tc * i1 + (ty * z + (p : Int) / z)) * i2 + (tx * z + (p : Int) % z)) := by rw [← hpos]; omega
    have := pos3 he ⟨by omega, by omega⟩ ⟨by omega, by omega⟩
    rw [hc, hfy, hfx] at this
    exact ⟨this.1.symm, by rw [this.2.1]; exact (mul_div_mod (by omega) py).1, by rw [this.2.2]; exact (mul_div_mod (by omega) px).1⟩
  split
  · rename_i hbad
    rw [fold_miss, repl_getD]
    intro x hx hxi
    have := (term x hx).2 hxi
    omega
  · rename_i hgood
    have g1 : c = tc := by omega
    have g2 : fy / z = ty := by omega
    have g3 : fx / z = tx := by omega
    have r1 := Int.mul_ediv_add_emod fy z
    have r2 := Int.mul_ediv_add_emod fx z
    rw [g2] at r1
    rw [g3] at r2
    have ry : 0 ≤ fy % z ∧ fy % z < z := ⟨Int.emod_nonneg _ (by omega), Int.emod_lt_of_pos _ (by omega)⟩
    have rx : 0 ≤ fx % z ∧ fx % z < z := ⟨Int.emod_nonneg _ (by omega), Int.emod_lt_of_pos _ (by omega)⟩
    have hp0 : 0 ≤ fy % z * z + fx % z := by have := Int.mul_nonneg ry.1 (show 0 ≤ z by omega); omega
    obtain ⟨p, hp⟩ := Int.eq_ofNat_of_zero_le hp0
    have hpd := mul_div_mod (a := fy % z) (b := fx % z) (z := z) (by omega) rx
    rw [hp] at hpd
    have hlt : (p : Int) < z * z := by
      rw [← hp]
      have := Int.mul_le_mul_of_nonneg_right (show fy % z + 1 ≤ z by omega) (show 0 ≤ z by omega)
      rw [Int.add_mul, Int.one_mul] at this
      omega
    have hmem : poolTerm z i1 i2 o p ∈ poolT z i1 i2 o := List.mem_map.2 ⟨p, List.mem_range.2 (by omega), rfl⟩
    have hval : (poolTerm z i1 i2 o p).2 = i := by
      unfold poolTerm
      rw [hH, hW, htc, hty, htx]
      simp only
      have hd1 : (p : Int) / z = fy % z := hpd.1
      have hd2 : (p : Int) % z = fx % z := hpd.2
      rw [hd1, hd2, ei, g1]
      have e3 : fy = ty * z + fy % z := by rw [Int.mul_comm]; omega
      have e4 : fx = tx * z + fx % z := by rw [Int.mul_comm]; omega
      obtain ⟨a, ha⟩ : ∃ a, fy % z = a := ⟨_, rfl⟩
      obtain ⟨b, hb⟩ : ∃ b, fx % z = b := ⟨_, rfl⟩
      rw [ha] at e3 ⊢
      rw [hb] at e4 ⊢
      rw [e3, e4]; grind
    rw [fold_hit _ _ _ (poolTerm z i1 i2 o p) (by rw [List.length_replicate]; omega) hmem (by rw [hval]) (fun u hu _ => ((term u hu).1).trans (term _ hmem).1.symm)]
    exact (term _ hmem).1
/-- an entry of a row is its weight -/
theorem mat_weight {n : NodeV} {sh : List (List Int)} {s t : List Int} {cnt : Nat} (h : PlaceIn n sh s t cnt) (hl : isLin n) {o i : Nat} (hi : (i : Int) < entries t) : (matRow n t o).getD i 0 = wgtI n t o i := by
  have hb := entries_bd t
  unfold matRow wgtI
  by_cases h3 : n.kind = 3
  · rw [if_pos h3, if_pos h3]
    have e : ((o : Int) * entries t + (i : Int)).toNat = o * (entries t).toNat + i := by
      have : entries t = ((entries t).toNat : Int) := by omega
      rw [this]
      have e2 : (o : Int) * ((entries t).toNat : Int) + (i : Int) = ((o * (entries t).toNat + i : Nat) : Int) := by simp
      rw [Int.toNat_natCast, e2, Int.toNat_natCast]
    rw [e]
    simp only [List.getD, List.getElem?_take, List.getElem?_drop]
    rw [if_pos (by omega)]
  · rw [if_neg h3, if_neg h3]
    by_cases h4 : n.kind = 4
    · have hk : n.kind = 3 ∨ n.kind = 4 ∨ n.kind = 5 := .inr (.inl h4)
      have hci := conv_in h h4
      obtain ⟨hf, hg⟩ := h.first hk
      have hker := (formed_of h.node.form).kern h4
      have hsh := h.node.shape
      unfold shapeO at hsh
      rw [if_neg (by omega), if_neg (by omega), if_pos h4, hf] at hsh
      split at hsh
      · cases hsh
      · rename_i hbad
        have h3l : t.length = 3 := by omega
        have ht0 : t.getD 0 0 = n.shape.xs.getD 1 0 := by omega
        have hE : entries t = n.shape.xs.getD 1 0 * t.getD 1 0 * t.getD 2 0 := by
          rw [← ht0]
          match t, h3l, hg with
          | [a, b, c], _, hg =>
            have h0 : entries [a, b, c] = entLoop 1 [a, b, c] := by unfold entries; rfl
            rw [h0] at hg ⊢
            simp only [entLoop] at hg ⊢
            split at hg
            · omega
            split at hg
            · omega
            split at hg
            · omega
            rename_i g1 g2 g3
            rw [if_neg g1, if_neg g2, if_neg g3]
            show 1 * a * b * c = a * b * c
            rw [Int.one_mul]
        have hrow := conv_at_row (d := n.data.xs) (k1 := n.shape.xs.getD 1 0) (o := (o : Int)) (i := (i : Int)) (E := (entries t).toNat) hci.k2 hci.k3 (by rw [← hE]; omega) ⟨by omega, by omega⟩ (by omega)
        have hT : termsG n t o = convT n.data.xs (n.shape.xs.getD 1 0) (n.shape.xs.getD 2 0) (n.shape.xs.getD 3 0) (t.getD 1 0) (t.getD 2 0) o := by unfold termsG; rw [if_neg h3, if_pos h4]
        rw [hT, if_pos h4]
        rw [Int.toNat_natCast] at hrow
        exact hrow
    · have h5 : n.kind = 5 := by rcases hl with g | g | g <;> first | exact absurd g h3 | exact absurd g h4 | exact g
      have hpi := pool_in h h5
      have hrow := pool_at_row (z := n.size) (i1 := t.getD 1 0) (i2 := t.getD 2 0) (o := (o : Int)) (i := (i : Int)) (E := (entries t).toNat) hpi.z hpi.z1 hpi.z2 hpi.m1 hpi.m2 ⟨by omega, by omega⟩ (by omega)
      have hT : termsG n t o = poolT n.size (t.getD 1 0) (t.getD 2 0) o := by unfold termsG; rw [if_neg h3, if_neg h4]
      rw [hT, if_neg h4]
      rw [Int.toNat_natCast] at hrow
      exact hrow
end Go.Proofs.Ytdmkdogakbipbaa

/- MI -/
namespace Go.Proofs.Ytdmkdogakbipbaa
abbrev dtMI1 : Go.SX.DT := (.take 0 (.take 1 (.take 2 (.take 3 (.take 4 (.take 5 (.take 6 (.take 7 (.take 8 (.take 9 (.take 10 (.take 11 (.take 12 (.take 13 (.take 14 (.alt 15 (.one 16 (.one 17 (.done))) (.one 16 (.one 15 (.one 17 (.done))))))))))))))))))))
open Go.SX Go.RowKit
theorem div_isM {x y q : Int} {K : Int → Prop} (e : x / y = q) (h0 : 0 ≤ x) (h1 : x ≤ 9223372036854775807) (hy : 0 < y) (h : K q) : divK .i64 x y K := div_pos rfl h0 h1 hy (by rw [e]; exact h)
theorem rem_isM {x y q : Int} {K : Int → Prop} (h0 : 0 ≤ x) (hy : y ≠ 0) (e : x % y = q) (h : K q) : remK x y K := rem_pos h0 hy (by rw [e]; exact h)
def pixV (c y x : Int) : Value := .agg #[.int .i64 c, .int .i64 y, .int .i64 x]
theorem split_any (w : World) (at_ high wide : Int) (h0 : 0 ≤ at_ ∧ at_ ≤ 10000) (hh : 1 ≤ high ∧ high ≤ 64) (hw : 1 ≤ wide ∧ wide ≤ 64) : Calls Try.prog 93 #[.int .i64 at_, .int .i64 high, .int .i64 wide] w fun e w' => e = .returned (pixV (at_ / wide / high) (at_ / wide % high) (at_ % wide)) ∧ Ext w w' := by
  obtain ⟨d1, d2, d3, d4⟩ := div_bd h0.1 (show 0 < wide by omega)
  refine calls_of tab tabOk Try.func93 rfl rfl rfl [] (fun _ => ⟨none, 0⟩) [.c (.int .i64 at_), .c (.int .i64 high), .c (.int .i64 wide)] [] (baseA w) 0 rfl rfl (by show 3 ≤ _; decide) (abs_base w) ?_
  (repeat' ((conv => whnf) <;> first | (show divK _ _ _ _; (first | refine div_isM (x := at_) rfl (by omega) (by omega) (by omega) ?_ | refine div_isM (x := at_ / wide) rfl (by omega) (by omega) (by omega) ?_)) | (show remK _ _ _; (first | refine rem_isM (x := at_) (by omega) (by omega) rfl ?_ | refine rem_isM (x := at_ / wide) (by omega) (by omega) rfl ?_)) | (show drawK _ 1 _ _ _ _ _ _; refine draw_tree tabOk mixed [14] _ dtIF3 (by kernel_rfl) (by kernel_rfl) (by kernel_rfl) (List.Sublist.refl _) ?_) | (show Wp _ _ _ _ _ _ _; refine Wp.go tabOk rfl ?_) | (show @cmpK _ _ _; (first | refine cmpY ?_ | refine cmpN ?_ | (refine cmp_both ?_ ?_ <;> intro _))) | (show wrapK _ _ _; refine wrapA ?_) | (show leK _ _ _; refine leA ?_) | (show roomK _ _ _; refine roomA ?_) | (show ltK _ _ _; refine ltA ?_) | (show _ ∧ _; refine ⟨?_, ?_⟩) | (show keepK _ _ _ _ _; refine keepA ?_) | refine own_keep ?_ | refine ap_old ?_))
  all_goals (conv => whnf)
  exact ends_of (fun _ _ h => h) (fun _ => rfl) rfl
def weigherV (n : NodeV) (t : IntsV) : Value := .agg #[.int .i64 n.kind, .int .i64 n.a, .int .i64 n.b, n.shape.val, .int .i64 n.lo, .int .i64 n.hi, .int .i64 n.size, n.data.val, n.bias.val, t.val]
theorem ro_ivM {a : Addr} {j : Nat} {S : Asn} {xs : List Int} {v : Int} {K : SV → Prop} (hx : ∀ R w, S.holds R w → RowsI w (some a) 1 (ints xs)) (hj : j < xs.length) (e : xs.getD j 0 = v) (h : K (.c (.int .i64 v))) : roK (a.add (j * 1)) S K := by
  subst e; exact ro_int hx hj h
set_option maxRecDepth 20000 in
set_option maxHeartbeats 4000000 in
theorem convw_any (w : World) (n : NodeV) (t : IntsV) (hs : n.shape.ok w) (hd : n.data.ok w) (ht : t.ok w) (hsl : n.shape.xs.length = 4) (htl : t.xs.length = 3) {k1 k2 k3 i1 i2 : Int} (e1 : n.shape.xs.getD 1 0 = k1) (e2 : n.shape.xs.getD 2 0 = k2) (e3 : n.shape.xs.getD 3 0 = k3) (f1 : t.xs.getD 1 0 = i1) (f2 : t.xs.getD 2 0 = i2) (b2 : (1 ≤ k2 ∧ k2 ≤ i1) ∧ i1 ≤ 64) (b3 : (1 ≤ k3 ∧ k3 ≤ i2) ∧ i2 ≤ 64)
    {o c fy fx tc ty tx : Int} (ho : 0 ≤ o ∧ o ≤ 10000) (hc : 0 ≤ c ∧ c ≤ 10000) (hfy : 0 ≤ fy ∧ fy ≤ 10000) (hfx : 0 ≤ fx ∧ fx ≤ 10000) (g1 : o / (i2 - k3 + 1) / (i1 - k2 + 1) = tc) (g2 : o / (i2 - k3 + 1) % (i1 - k2 + 1) = ty) (g3 : o % (i2 - k3 + 1) = tx) {z : Int}
    (hz : (fy - ty < 0 ∨ k2 ≤ fy - ty ∨ fx - tx < 0 ∨ k3 ≤ fx - tx) ∧ z = 0 ∨ ¬ (fy - ty < 0 ∨ k2 ≤ fy - ty ∨ fx - tx < 0 ∨ k3 ≤ fx - tx) ∧ (0 ≤ tc * k1 ∧ tc * k1 ≤ 1000000) ∧ (0 ≤ (tc * k1 + c) * k2 ∧ (tc * k1 + c) * k2 ≤ 1000000) ∧ (0 ≤ ((tc * k1 + c) * k2 + (fy - ty)) * k3 ∧ ((tc * k1 + c) * k2 + (fy - ty)) * k3 ≤ 1000000) ∧ ∃ q : Nat, ((tc * k1 + c) * k2 + (fy - ty)) * k3 + (fx - tx) = q ∧ q < n.data.xs.length ∧ n.data.xs.getD q 0 = z) :
    Calls Try.prog 92 #[weigherV n t, .int .i64 o, pixV c fy fx] w fun e w' => e = .returned (.int .i64 z) ∧ Ext w w' := by
  obtain ⟨sa, hsa⟩ := hs.base (by omega)
  obtain ⟨ta, hta⟩ := ht.base (by omega)
  have hsr : ∀ (R : Nat → Prop) w', (baseA w).holds R w' → RowsI w' (some sa) 1 (ints n.shape.xs) := fun R w' h => by rw [← hsa]; exact rows_base h hs.rows
  have htr : ∀ (R : Nat → Prop) w', (baseA w).holds R w' → RowsI w' (some ta) 1 (ints t.xs) := fun R w' h => by rw [← hta]; exact rows_base h ht.rows
  have hsp : ∀ (w' : World), Calls Try.prog 93 #[.int .i64 o, .int .i64 (i1 - k2 + 1), .int .i64 (i2 - k3 + 1)] w' fun e w2 => e = .returned (pixV tc ty tx) ∧ Ext w' w2 := fun w' => by
    have := split_any w' o (i1 - k2 + 1) (i2 - k3 + 1) ho (by omega) (by omega)
    rw [g1, g2, g3] at this; exact this
  obtain ⟨d1, d2, d3, d4⟩ := div_bd ho.1 (show 0 < i2 - k3 + 1 by omega)
  obtain ⟨d5, d6, d7, d8⟩ := div_bd d1 (show 0 < i1 - k2 + 1 by omega)
  rw [g1] at d5 d6
  rw [g2] at d7 d8
  rw [g3] at d3 d4
  rcases hz with ⟨hbad, rfl⟩ | ⟨hgood, hA, hB, hC, q, hq, hql, rfl⟩
  · refine calls_of tab tabOk Try.func92 rfl rfl rfl [] (fun _ => ⟨none, 0⟩) [.agg [.c (.int .i64 n.kind), .c (.int .i64 n.a), .c (.int .i64 n.b), .c n.shape.val, .c (.int .i64 n.lo), .c (.int .i64 n.hi), .c (.int .i64 n.size), .c n.data.val, .c n.bias.val, .c t.val], .c (.int .i64 o), .agg [.c (.int .i64 c), .c (.int .i64 fy), .c (.int .i64 fx)]] [] (baseA w) 0 rfl rfl (by show 3 ≤ _; decide) (abs_base w) ?_
    (repeat' ((conv => whnf) <;> first | (show idxK _ _ _ _ _; (first | refine idx_of sa 2 hsa rfl (by omega) ?_ | refine idx_of sa 3 hsa rfl (by omega) ?_ | refine idx_of sa 1 hsa rfl (by omega) ?_ | refine idx_of ta 1 hta rfl (by omega) ?_ | refine idx_of ta 2 hta rfl (by omega) ?_)) | (show roK _ _ _; (first | refine ro_ivM hsr (j := 2) (by omega) e2 ?_ | refine ro_ivM hsr (j := 3) (by omega) e3 ?_ | refine ro_ivM hsr (j := 1) (by omega) e1 ?_ | refine ro_ivM htr (j := 1) (by omega) f1 ?_ | refine ro_ivM htr (j := 2) (by omega) f2 ?_)) | (show @cmpK _ _ _; (first | refine cmp_yes (by omega) ?_ | refine cmp_no (by omega) ?_ | (refine cmp_both ?_ ?_ <;> intro _))) | (show callK _ 93 _ _ _ _ _; refine call_pure (f := 93) Try.call93 (pixV tc ty tx) (fun ρ w' hw => hsp w') ?_) | (show callQ _ 93 _ _ _ _ _; refine callQ_of (f := 93) Try.call93 (pixV tc ty tx) (fun ρ w' hw => hsp w') ?_) | (show drawK _ 2 _ _ _ _ _ _; refine draw_tree tabOk mixed [17] _ dtMI1 (by kernel_rfl) (by kernel_rfl) (by kernel_rfl) (List.Sublist.refl _) ?_) | (show drawK _ _ _ _ _ _ _ _; refine draw_quiet tabOk mixed (by kernel_rfl) ?_) | (show Wp _ _ _ _ _ _ _; refine Wp.go tabOk rfl ?_) | (show @cmpK _ _ _; (first | refine cmpY ?_ | refine cmpN ?_ | (refine cmp_both ?_ ?_ <;> intro _))) | (show wrapK _ _ _; refine wrapA ?_) | (show leK _ _ _; refine leA ?_) | (show roomK _ _ _; refine roomA ?_) | (show ltK _ _ _; refine ltA ?_) | (show _ ∧ _; refine ⟨?_, ?_⟩) | (show keepK _ _ _ _ _; refine keepA ?_) | refine own_keep ?_ | refine ap_old ?_))
    all_goals (conv => whnf)
    all_goals first | (exfalso; omega) | exact ends_of (fun _ _ h => h) (fun _ => rfl) rfl
  · obtain ⟨da, hda⟩ := hd.base (by omega)
    have hdr : ∀ (R : Nat → Prop) w', (baseA w).holds R w' → RowsI w' (some da) 1 (ints n.data.xs) := fun R w' h => by rw [← hda]; exact rows_base h hd.rows
    refine calls_of tab tabOk Try.func92 rfl rfl rfl [] (fun _ => ⟨none, 0⟩) [.agg [.c (.int .i64 n.kind), .c (.int .i64 n.a), .c (.int .i64 n.b), .c n.shape.val, .c (.int .i64 n.lo), .c (.int .i64 n.hi), .c (.int .i64 n.size), .c n.data.val, .c n.bias.val, .c t.val], .c (.int .i64 o), .agg [.c (.int .i64 c), .c (.int .i64 fy), .c (.int .i64 fx)]] [] (baseA w) 0 rfl rfl (by show 3 ≤ _; decide) (abs_base w) ?_
    (repeat' ((conv => whnf) <;> first | (show idxK _ _ _ _ _; (first | refine idx_of sa 2 hsa rfl (by omega) ?_ | refine idx_of sa 3 hsa rfl (by omega) ?_ | refine idx_of sa 1 hsa rfl (by omega) ?_ | refine idx_of ta 1 hta rfl (by omega) ?_ | refine idx_of ta 2 hta rfl (by omega) ?_ | refine idx_of da q hda hq hql ?_)) | (show roK _ _ _; (first | refine ro_ivM hsr (j := 2) (by omega) e2 ?_ | refine ro_ivM hsr (j := 3) (by omega) e3 ?_ | refine ro_ivM hsr (j := 1) (by omega) e1 ?_ | refine ro_ivM htr (j := 1) (by omega) f1 ?_ | refine ro_ivM htr (j := 2) (by omega) f2 ?_ | refine ro_int hdr (j := q) hql ?_)) | (show callK _ 93 _ _ _ _ _; refine call_pure (f := 93) Try.call93 (pixV tc ty tx) (fun ρ w' hw => hsp w') ?_) | (show callQ _ 93 _ _ _ _ _; refine callQ_of (f := 93) Try.call93 (pixV tc ty tx) (fun ρ w' hw => hsp w') ?_) | (show drawK _ 2 _ _ _ _ _ _; refine draw_tree tabOk mixed [17] _ dtMI1 (by kernel_rfl) (by kernel_rfl) (by kernel_rfl) (List.Sublist.refl _) ?_) | (show drawK _ _ _ _ _ _ _ _; refine draw_quiet tabOk mixed (by kernel_rfl) ?_) | (show Wp _ _ _ _ _ _ _; refine Wp.go tabOk rfl ?_) | (show @cmpK _ _ _; (first | refine cmpY ?_ | refine cmpN ?_ | (refine cmp_both ?_ ?_ <;> intro _))) | (show wrapK _ _ _; refine wrapA ?_) | (show leK _ _ _; refine leA ?_) | (show roomK _ _ _; refine roomA ?_) | (show ltK _ _ _; refine ltA ?_) | (show _ ∧ _; refine ⟨?_, ?_⟩) | (show keepK _ _ _ _ _; refine keepA ?_) | refine own_keep ?_ | refine ap_old ?_))
    all_goals (conv => whnf)
    all_goals exact ends_of (fun _ _ h => h) (fun _ => rfl) rfl
end Go.Proofs.Ytdmkdogakbipbaa

/- MJ -/
namespace Go.Proofs.Ytdmkdogakbipbaa
open Go.SX Go.RowKit
structure LConv (n : NodeV) (t : List Int) (cnt : Nat) (k0 k1 k2 k3 i1 i2 : Int) : Prop where
  kind : n.kind = 4
  s4 : n.shape.xs.length = 4
  t3 : t.length = 3
  e0 : n.shape.xs.getD 0 0 = k0
  e1 : n.shape.xs.getD 1 0 = k1
  e2 : n.shape.xs.getD 2 0 = k2
  e3 : n.shape.xs.getD 3 0 = k3
  f0 : t.getD 0 0 = k1
  f1 : t.getD 1 0 = i1
  f2 : t.getD 2 0 = i2
  b0 : 1 ≤ k0 ∧ k0 ≤ 64
  b1 : 1 ≤ k1 ∧ k1 ≤ 64
  b2 : 1 ≤ k2 ∧ k2 ≤ i1
  b3 : 1 ≤ k3 ∧ k3 ≤ i2
  bi1 : i1 ≤ 64
  bi2 : i2 ≤ 64
  data : (n.data.xs.length : Int) = k0 * k1 * k2 * k3
  bias : (n.bias.xs.length : Int) = k0
  cnt : (cnt : Int) = k0 * (i1 - k2 + 1) * (i2 - k3 + 1)
  size : entries t = k1 * i1 * i2
structure LPool (n : NodeV) (t : List Int) (cnt : Nat) (i0 i1 i2 : Int) : Prop where
  kind : n.kind = 5
  t3 : t.length = 3
  f0 : t.getD 0 0 = i0
  f1 : t.getD 1 0 = i1
  f2 : t.getD 2 0 = i2
  b0 : 1 ≤ i0 ∧ i0 ≤ 64
  z : 1 ≤ n.size
  z1 : n.size ≤ i1
  z2 : n.size ≤ i2
  b1 : i1 ≤ 64
  b2 : i2 ≤ 64
  m1 : i1 % n.size = 0
  m2 : i2 % n.size = 0
  cnt : (cnt : Int) = i0 * (i1 / n.size) * (i2 / n.size)
  size : entries t = i0 * i1 * i2
theorem lin_cases {n : NodeV} {sh : List (List Int)} {s t : List Int} {cnt : Nat} (h : PlaceIn n sh s t cnt) (hl : isLin n) :
    (n.kind = 3 ∧ ∃ size : Nat, entries t = size ∧ n.data.xs.length = cnt * size ∧ n.bias.xs.length = cnt) ∨ (∃ k0 k1 k2 k3 i1 i2, LConv n t cnt k0 k1 k2 k3 i1 i2) ∨ ∃ i0 i1 i2, LPool n t cnt i0 i1 i2 := by
  have hsh := h.node.shape
  have hfo := formed_of h.node.form
  have h4 := form4 h.node.form
  have heb := (entries_bd t).2
  have hc := h.cnt
  have hfew := h.few
  have hgs := h.pos
  obtain ⟨ht, hg⟩ := h.first hl
  obtain ⟨size, hsz⟩ : ∃ size : Nat, entries t = size := ⟨(entries t).toNat, by omega⟩
  rcases hl with hk | hk | hk
  · refine .inl ⟨hk, size, hsz, ?_⟩
    unfold shapeO at hsh
    rw [if_neg (by omega), if_pos hk, ht] at hsh
    by_cases hdl : (n.data.xs.length : Int) = n.bias.xs.length * entries t
    · rw [if_pos hdl, Option.some.injEq] at hsh
      obtain ⟨b1, b2⟩ := hfo.bias hk
      have he1 : entries [(n.bias.xs.length : Int)] = n.bias.xs.length := by
        unfold entries
        rw [if_neg (by simp)]
        simp only [entLoop]
        rw [if_neg (by omega)]
        omega
      rw [← hsh, he1] at hc
      have hbl : n.bias.xs.length = cnt := by omega
      have hdl' : n.data.xs.length = n.bias.xs.length * size := by
        rw [hsz, ← Int.natCast_mul] at hdl
        exact Int.ofNat.inj hdl
      rw [hbl] at hdl'
      exact ⟨hdl', hbl⟩
    · rw [if_neg hdl] at hsh; cases hsh
  · obtain ⟨g1, g2⟩ := h4 hk
    have hker := hfo.kern hk
    obtain ⟨hl4, hdim⟩ := kernel_dims hker
    have hsx := list4 hl4
    have hC := conv_in h hk
    unfold shapeO at hsh
    rw [if_neg (by omega), if_neg (by omega), if_pos hk, ht] at hsh
    have dm : ∀ k, k < 4 → 1 ≤ n.shape.xs.getD k 0 ∧ n.shape.xs.getD k 0 ≤ 64 := fun k hk => hdim _ (getD_mem (by omega))
    have dm0 := dm 0 (by decide)
    have dm1 := dm 1 (by decide)
    rw [hsx] at g1 hker
    have hke := kernel4I hker
    rw [hke] at g1
    by_cases hbad : t.length ≠ 3 ∨ t.getD 0 0 ≠ n.shape.xs.getD 1 0 ∨ t.getD 1 0 < n.shape.xs.getD 2 0 ∨ t.getD 2 0 < n.shape.xs.getD 3 0
    · rw [if_pos hbad] at hsh; cases hsh
    rw [if_neg hbad] at hsh
    have hl3 : t.length = 3 := by omega
    have htx := len3 hl3
    have h0 : t.getD 0 0 = n.shape.xs.getD 1 0 := by omega
    have tdm := (entries_dims hg).2.2
    have td1 := tdm _ (getD_mem (xs := t) (k := 1) (by omega))
    have td2 := tdm _ (getD_mem (xs := t) (k := 2) (by omega))
    have hE : entries t = n.shape.xs.getD 1 0 * t.getD 1 0 * t.getD 2 0 := by
      have := entries3_valI (by rw [← htx]; exact hg)
      rw [← htx, h0] at this
      exact this
    by_cases hpos : 0 < entries [n.shape.xs.getD 0 0, t.getD 1 0 - n.shape.xs.getD 2 0 + 1, t.getD 2 0 - n.shape.xs.getD 3 0 + 1]
    · rw [if_pos hpos, Option.some.injEq] at hsh
      have hcv := entries3_valI hpos
      rw [hsh, hc] at hcv
      exact .inr (.inl ⟨_, _, _, _, _, _, ⟨hk, hl4, hl3, rfl, rfl, rfl, rfl, h0, rfl, rfl, dm0, dm1, hC.k2, hC.k3, td1.2, td2.2, g1, g2, hcv, hE⟩⟩)
    · rw [if_neg hpos] at hsh; cases hsh
  · have hP := pool_in h hk
    unfold shapeO at hsh
    rw [if_neg (by omega), if_neg (by omega), if_neg (by omega), if_pos hk, ht] at hsh
    by_cases hbad : t.length ≠ 3 ∨ t.getD 1 0 % n.size ≠ 0 ∨ t.getD 2 0 % n.size ≠ 0
    · rw [if_pos hbad] at hsh; cases hsh
    rw [if_neg hbad, Option.some.injEq] at hsh
    have hl3 : t.length = 3 := by omega
    have htx := len3 hl3
    have tdm := (entries_dims hg).2.2
    have td0 := tdm _ (getD_mem (xs := t) (k := 0) (by omega))
    have td1 := tdm _ (getD_mem (xs := t) (k := 1) (by omega))
    have td2 := tdm _ (getD_mem (xs := t) (k := 2) (by omega))
    have hpos : 0 < entries [t.getD 0 0, t.getD 1 0 / n.size, t.getD 2 0 / n.size] := by
      have := shape_good hfo hgs h.node.shape rfl
      rw [hsh]; exact this
    have hcv := entries3_valI hpos
    rw [hsh, hc] at hcv
    have hE : entries t = t.getD 0 0 * t.getD 1 0 * t.getD 2 0 := by
      have := entries3_valI (by rw [← htx]; exact hg)
      rw [← htx] at this
      exact this
    exact .inr (.inr ⟨_, _, _, ⟨hk, hl3, rfl, rfl, rfl, td0, hP.z, hP.z1, hP.z2, td1.2, td2.2, hP.m1, hP.m2, hcv, hE⟩⟩)
def wgt9 (o i : Int) : Int := if o = i then 1 else 0
set_option maxRecDepth 20000 in
set_option maxHeartbeats 4000000 in
theorem weight9_any (w : World) (n : NodeV) (t : IntsV) (hk : n.kind = 9) (o i : Int) : Calls Try.prog 64 #[weigherV n t, .int .i64 o, .int .i64 i] w fun e w' => e = .returned (.int .i64 (wgt9 o i)) ∧ Ext w w' := by
  by_cases h : o = i
  · refine calls_of tab tabOk Try.func64 rfl rfl rfl [] (fun _ => ⟨none, 0⟩) [.agg [.c (.int .i64 n.kind), .c (.int .i64 n.a), .c (.int .i64 n.b), .c n.shape.val, .c (.int .i64 n.lo), .c (.int .i64 n.hi), .c (.int .i64 n.size), .c n.data.val, .c n.bias.val, .c t.val], .c (.int .i64 o), .c (.int .i64 i)] [] (baseA w) 0 rfl rfl (by show 3 ≤ _; decide) (abs_base w) ?_
    (repeat' ((conv => whnf) <;> first | (show drawK _ _ _ _ _ _ _ _; refine draw_quiet tabOk mixed (by kernel_rfl) ?_) | (show Wp _ _ _ _ _ _ _; refine Wp.go tabOk rfl ?_) | (show @cmpK _ _ _; (first | refine cmpY ?_ | refine cmpN ?_ | (refine cmp_both ?_ ?_ <;> intro _))) | (show wrapK _ _ _; refine wrapA ?_) | (show leK _ _ _; refine leA ?_) | (show roomK _ _ _; refine roomA ?_) | (show ltK _ _ _; refine ltA ?_) | (show _ ∧ _; refine ⟨?_, ?_⟩) | (show keepK _ _ _ _ _; refine keepA ?_) | refine own_keep ?_ | refine ap_old ?_))
    all_goals (conv => whnf)
    all_goals exact ends_of (fun _ _ h => h) (fun _ => by rw [wgt9, if_pos h]; rfl) rfl
  · refine calls_of tab tabOk Try.func64 rfl rfl rfl [] (fun _ => ⟨none, 0⟩) [.agg [.c (.int .i64 n.kind), .c (.int .i64 n.a), .c (.int .i64 n.b), .c n.shape.val, .c (.int .i64 n.lo), .c (.int .i64 n.hi), .c (.int .i64 n.size), .c n.data.val, .c n.bias.val, .c t.val], .c (.int .i64 o), .c (.int .i64 i)] [] (baseA w) 0 rfl rfl (by show 3 ≤ _; decide) (abs_base w) ?_
    (repeat' ((conv => whnf) <;> first | (show drawK _ _ _ _ _ _ _ _; refine draw_quiet tabOk mixed (by kernel_rfl) ?_) | (show Wp _ _ _ _ _ _ _; refine Wp.go tabOk rfl ?_) | (show @cmpK _ _ _; (first | refine cmpY ?_ | refine cmpN ?_ | (refine cmp_both ?_ ?_ <;> intro _))) | (show wrapK _ _ _; refine wrapA ?_) | (show leK _ _ _; refine leA ?_) | (show roomK _ _ _; refine roomA ?_) | (show ltK _ _ _; refine ltA ?_) | (show _ ∧ _; refine ⟨?_, ?_⟩) | (show keepK _ _ _ _ _; refine keepA ?_) | refine own_keep ?_ | refine ap_old ?_))
    all_goals (conv => whnf)
    all_goals exact ends_of (fun _ _ h => h) (fun _ => by rw [wgt9, if_neg h]; rfl) rfl
set_option maxRecDepth 20000 in
set_option maxHeartbeats 4000000 in
theorem weight3_any (w : World) (n : NodeV) (t : IntsV) (hd : n.data.ok w) (hk : n.kind = 3) (size cnt : Nat) (hsz : entries t.xs = size) (hdl : n.data.xs.length = cnt * size) (hbl : n.bias.xs.length = cnt) (hc64 : cnt ≤ 64) (hs64 : size ≤ 64) (o i : Nat) (ho : o < cnt) (hi : i < size) : Calls Try.prog 64 #[weigherV n t, .int .i64 o, .int .i64 i] w fun e w' => e = .returned (.int .i64 (wgtI n t.xs o i)) ∧ Ext w w' := by
  have hq : o * size + i < cnt * size := by
    have : (o + 1) * size ≤ cnt * size := Nat.mul_le_mul_right _ ho
    rw [Nat.succ_mul] at this; omega
  have hos : o * size ≤ 64 * 64 := Nat.mul_le_mul (by omega) hs64
  have hcs : cnt * size ≤ 64 * 64 := Nat.mul_le_mul hc64 hs64
  have hdiv : ((n.data.xs.length : Nat) : Int) / ((n.bias.xs.length : Nat) : Int) = (size : Int) := by
    rw [hdl, hbl, ← Int.natCast_ediv, Nat.mul_div_cancel_left _ (by omega)]
  have hW : wgtI n t.xs o i = n.data.xs.getD (o * size + i) 0 := by
    rw [wgtI, if_pos hk, hsz, show (o : Int) * (size : Int) + (i : Int) = ((o * size + i : Nat) : Int) by simp, Int.toNat_natCast]
  rw [hW]
  obtain ⟨da, hda⟩ := hd.base (by omega)
  have hdr : ∀ (R : Nat → Prop) w', (baseA w).holds R w' → RowsI w' (some da) 1 (ints n.data.xs) := fun R w' h => by rw [← hda]; exact rows_base h hd.rows
  refine calls_of tab tabOk Try.func64 rfl rfl rfl [] (fun _ => ⟨none, 0⟩) [.agg [.c (.int .i64 n.kind), .c (.int .i64 n.a), .c (.int .i64 n.b), .c n.shape.val, .c (.int .i64 n.lo), .c (.int .i64 n.hi), .c (.int .i64 n.size), .c n.data.val, .c n.bias.val, .c t.val], .c (.int .i64 o), .c (.int .i64 i)] [] (baseA w) 0 rfl rfl (by show 3 ≤ _; decide) (abs_base w) ?_
  (repeat' ((conv => whnf) <;> first | (show divK _ _ _ _; refine div_isM hdiv (by omega) (by omega) (by omega) ?_) | (show wrapK _ _ _; (first | refine wrap_isI ((o * size : Nat) : Int) (Int.natCast_mul _ _).symm (by omega) (by omega) ?_ | refine wrap_i64 (by omega) (by omega) ?_)) | (show idxK _ _ _ _ _; refine idx_of da (o * size + i) hda (by omega) (by omega) ?_) | (show roK _ _ _; refine ro_int hdr (j := o * size + i) (by omega) ?_) | (show drawK _ _ _ _ _ _ _ _; refine draw_quiet tabOk mixed (by kernel_rfl) ?_) | (show Wp _ _ _ _ _ _ _; refine Wp.go tabOk rfl ?_) | (show @cmpK _ _ _; (first | refine cmpY ?_ | refine cmpN ?_ | (refine cmp_both ?_ ?_ <;> intro _))) | (show wrapK _ _ _; refine wrapA ?_) | (show leK _ _ _; refine leA ?_) | (show roomK _ _ _; refine roomA ?_) | (show ltK _ _ _; refine ltA ?_) | (show _ ∧ _; refine ⟨?_, ?_⟩) | (show keepK _ _ _ _ _; refine keepA ?_) | refine own_keep ?_ | refine ap_old ?_))
  all_goals (conv => whnf)
  all_goals exact ends_of (fun _ _ h => h) (fun _ => rfl) rfl
end Go.Proofs.Ytdmkdogakbipbaa

/- MK -/
namespace Go.Proofs.Ytdmkdogakbipbaa
abbrev dtMK0 : Go.SX.DT := (.take 0 (.take 1 (.take 2 (.take 3 (.take 4 (.take 5 (.take 6 (.take 7 (.take 8 (.take 9 (.take 10 (.take 11 (.take 12 (.take 13 (.take 14 (.take 15 (.take 16 (.take 18 (.take 19 (.take 20 (.take 21 (.take 22 (.take 23 (.take 24 (.take 25 (.take 26 (.alt 17 (.alt 27 (.alt 28 (.one 29 (.one 30 (.one 31 (.done)))) (.one 29 (.one 28 (.one 30 (.one 31 (.done)))))) (.alt 28 (.alt 27 (.one 29 (.one 30 (.one 31 (.done)))) (.one 29 (.one 27 (.one 30 (.one 31 (.done)))))) (.one 29 (.alt 27 (.one 28 (.one 30 (.one 31 (.done)))) (.one 28 (.one 27 (.one 30 (.one 31 (.done))))))))) (.alt 28 (.alt 17 (.alt 27 (.one 29 (.one 30 (.one 31 (.done)))) (.one 29 (.one 27 (.one 30 (.one 31 (.done)))))) (.one 29 (.one 17 (.one 27 (.one 30 (.one 31 (.done))))))) (.one 29 (.alt 17 (.alt 27 (.one 28 (.one 30 (.one 31 (.done)))) (.one 28 (.one 27 (.one 30 (.one 31 (.done)))))) (.one 28 (.one 17 (.one 27 (.one 30 (.one 31 (.done))))))))))))))))))))))))))))))))))))
open Go.SX Go.RowKit
theorem convw_z {n : NodeV} {t : IntsV} {cnt : Nat} {k0 k1 k2 k3 i1 i2 : Int} (h : LConv n t.xs cnt k0 k1 k2 k3 i1 i2) (hfew : n.data.xs.length ≤ 1000000) {o i : Int} (ho : 0 ≤ o ∧ o < cnt) (hi : 0 ≤ i ∧ i < entries t.xs) {c fy fx tc ty tx : Int}
    (hc : i / i2 / i1 = c) (hfy : i / i2 % i1 = fy) (hfx : i % i2 = fx) (htc : o / (i2 - k3 + 1) / (i1 - k2 + 1) = tc) (hty : o / (i2 - k3 + 1) % (i1 - k2 + 1) = ty) (htx : o % (i2 - k3 + 1) = tx) :
    (fy - ty < 0 ∨ k2 ≤ fy - ty ∨ fx - tx < 0 ∨ k3 ≤ fx - tx) ∧ wgtI n t.xs o i = 0 ∨ ¬ (fy - ty < 0 ∨ k2 ≤ fy - ty ∨ fx - tx < 0 ∨ k3 ≤ fx - tx) ∧ (0 ≤ tc * k1 ∧ tc * k1 ≤ 1000000) ∧ (0 ≤ (tc * k1 + c) * k2 ∧ (tc * k1 + c) * k2 ≤ 1000000) ∧ (0 ≤ ((tc * k1 + c) * k2 + (fy - ty)) * k3 ∧ ((tc * k1 + c) * k2 + (fy - ty)) * k3 ≤ 1000000) ∧ ∃ q : Nat, ((tc * k1 + c) * k2 + (fy - ty)) * k3 + (fx - tx) = q ∧ q < n.data.xs.length ∧ n.data.xs.getD q 0 = wgtI n t.xs o i := by
  obtain ⟨hk, s4, t3, e0, e1, e2, e3, f0, f1, f2, b0, b1, b2, b3, bi1, bi2, hd, hb, hcnt, hsz⟩ := h
  have hw : wgtI n t.xs o i = if fy - ty < 0 ∨ k2 ≤ fy - ty ∨ fx - tx < 0 ∨ k3 ≤ fx - tx then 0 else n.data.xs.getD (((tc * k1 + c) * k2 + (fy - ty)) * k3 + (fx - tx)).toNat 0 := by
    unfold wgtI
    rw [if_neg (by omega), if_pos hk, e1, e2, e3, f1, f2, hc, hfy, hfx, htc, hty, htx]
  rw [hw]
  by_cases hbad : fy - ty < 0 ∨ k2 ≤ fy - ty ∨ fx - tx < 0 ∨ k3 ≤ fx - tx
  · exact .inl ⟨hbad, if_pos hbad⟩
  · refine .inr ⟨hbad, ?_⟩
    rw [if_neg hbad]
    obtain ⟨_, ox, oy, oc⟩ := pos_split (i := o) (I1 := i1 - k2 + 1) (I2 := i2 - k3 + 1) ho.1 (by omega) (by omega)
    obtain ⟨_, ix, iy, ic⟩ := pos_split (i := i) (I1 := i1) (I2 := i2) hi.1 (by omega) (by omega)
    rw [htc] at oc
    rw [hc] at ic
    have htk : tc < k0 := by
      rw [← htc]
      refine div_lt_of (by omega) (div_lt_of (by omega) ?_)
      rw [← hcnt]; exact ho.2
    have hck : c < k1 := by
      rw [← hc]
      refine div_lt_of (by omega) (div_lt_of (by omega) ?_)
      rw [← hsz]; exact hi.2
    have L1 := lin_lt (o := tc) (k1 := k1) (c := c) (k0 := k0) ⟨oc, htk⟩ ⟨ic, hck⟩
    have p1 : 0 ≤ tc * k1 := Int.mul_nonneg oc (by omega)
    have L2 := lin_lt (o := tc * k1 + c) (k1 := k2) (c := fy - ty) (k0 := k0 * k1) ⟨by omega, L1⟩ ⟨by omega, by omega⟩
    have p2 : 0 ≤ (tc * k1 + c) * k2 := Int.mul_nonneg (by omega) (by omega)
    have L3 := lin_lt (o := (tc * k1 + c) * k2 + (fy - ty)) (k1 := k3) (c := fx - tx) (k0 := k0 * k1 * k2) ⟨by omega, L2⟩ ⟨by omega, by omega⟩
    have p3 : 0 ≤ ((tc * k1 + c) * k2 + (fy - ty)) * k3 := Int.mul_nonneg (by omega) (by omega)
    have u1 : tc * k1 ≤ (tc * k1 + c) * k2 := by
      have := Int.mul_le_mul_of_nonneg_left (show 1 ≤ k2 by omega) (show 0 ≤ tc * k1 + c by omega)
      rw [Int.mul_one] at this; omega
    have u2 : (tc * k1 + c) * k2 ≤ ((tc * k1 + c) * k2 + (fy - ty)) * k3 := by
      have := Int.mul_le_mul_of_nonneg_left (show 1 ≤ k3 by omega) (show 0 ≤ (tc * k1 + c) * k2 + (fy - ty) by omega)
      rw [Int.mul_one] at this; omega
    rw [← hd] at L3
    obtain ⟨q, hq⟩ := Int.eq_ofNat_of_zero_le (show 0 ≤ ((tc * k1 + c) * k2 + (fy - ty)) * k3 + (fx - tx) by omega)
    exact ⟨⟨p1, by omega⟩, ⟨p2, by omega⟩, ⟨p3, by omega⟩, q, hq, by omega, by rw [hq]; rfl⟩
set_option maxRecDepth 20000 in
set_option maxHeartbeats 4000000 in
theorem weight4_any (w : World) (n : NodeV) (t : IntsV) (hno : n.ok w) (ht : t.ok w) (cnt : Nat) (hc64 : cnt ≤ 64) {k0 k1 k2 k3 i1 i2 : Int} (h : LConv n t.xs cnt k0 k1 k2 k3 i1 i2) (o i : Nat) (ho : o < cnt) (hi : (i : Int) < entries t.xs) : Calls Try.prog 64 #[weigherV n t, .int .i64 o, .int .i64 i] w fun e w' => e = .returned (.int .i64 (wgtI n t.xs o i)) ∧ Ext w w' := by
  have hes := (entries_bd t.xs).2
  obtain ⟨ta, hta⟩ := ht.base (by have := h.t3; omega)
  have ht3 := h.t3
  have htr : ∀ (R : Nat → Prop) w', (baseA w).holds R w' → RowsI w' (some ta) 1 (ints t.xs) := fun R w' h => by rw [← hta]; exact rows_base h ht.rows
  have hk := h.kind
  have g1 := h.b2
  have g2 := h.b3
  have g3 := h.bi1
  have g4 := h.bi2
  obtain ⟨_, ix, iy, ic⟩ := pos_split (i := (i : Int)) (I1 := i1) (I2 := i2) (by omega) (by omega) (by omega)
  have d1 := Int.ediv_le_self (a := (i : Int)) i2 (by omega)
  have d2 := Int.ediv_le_self (a := (i : Int) / i2) i1 (Int.ediv_nonneg (by omega) (by omega))
  have hsp : ∀ (w' : World), Calls Try.prog 93 #[.int .i64 i, .int .i64 i1, .int .i64 i2] w' fun e w2 => e = .returned (pixV ((i : Int) / i2 / i1) ((i : Int) / i2 % i1) ((i : Int) % i2)) ∧ Ext w' w2 := fun w' => split_any w' i i1 i2 (by omega) (by omega) (by omega)
  have hcv : ∀ (w' : World), n.ok w' → t.ok w' → Calls Try.prog 92 #[weigherV n t, .int .i64 o, pixV ((i : Int) / i2 / i1) ((i : Int) / i2 % i1) ((i : Int) % i2)] w' fun e w2 => e = .returned (.int .i64 (wgtI n t.xs o i)) ∧ Ext w' w2 := fun w' hn' ht' =>
    convw_any w' n t hn'.shape hn'.data ht' h.s4 h.t3 h.e1 h.e2 h.e3 h.f1 h.f2 ⟨g1, g3⟩ ⟨g2, g4⟩ (by omega) (by omega) (by omega) (by omega) rfl rfl rfl (convw_z h hno.data.few (by omega) (by omega) rfl rfl rfl rfl rfl rfl)
  refine calls_of tab tabOk Try.func64 rfl rfl rfl [] (fun _ => ⟨none, 0⟩) [.agg [.c (.int .i64 n.kind), .c (.int .i64 n.a), .c (.int .i64 n.b), .c n.shape.val, .c (.int .i64 n.lo), .c (.int .i64 n.hi), .c (.int .i64 n.size), .c n.data.val, .c n.bias.val, .c t.val], .c (.int .i64 o), .c (.int .i64 i)] [] (baseA w) 0 rfl rfl (by show 3 ≤ _; decide) (abs_base w) ?_
  (repeat' ((conv => whnf) <;> first | (show idxK _ _ _ _ _; (first | refine idx_of ta 1 hta rfl (by omega) ?_ | refine idx_of ta 2 hta rfl (by omega) ?_)) | (show roK _ _ _; (first | refine ro_ivM htr (j := 1) (by omega) h.f1 ?_ | refine ro_ivM htr (j := 2) (by omega) h.f2 ?_)) | (show callQ _ 93 _ _ _ _ _; refine callQ_of (f := 93) Try.call93 (pixV ((i : Int) / i2 / i1) ((i : Int) / i2 % i1) ((i : Int) % i2)) (fun ρ w' hw => hsp w') ?_) | (show callQ _ 92 _ _ _ _ _; refine callQ_of (f := 92) Try.call92 (.int .i64 (wgtI n t.xs o i)) (fun ρ w' hw => hcv w' (holds_of_abs hw fun R h => hno.later h) (holds_of_abs hw fun R h => ht.later h)) ?_) | (show callK _ 93 _ _ _ _ _; refine call_pure (f := 93) Try.call93 (pixV ((i : Int) / i2 / i1) ((i : Int) / i2 % i1) ((i : Int) % i2)) (fun ρ w' hw => hsp w') ?_) | (show callK _ 92 _ _ _ _ _; refine call_pure (f := 92) Try.call92 (.int .i64 (wgtI n t.xs o i)) (fun ρ w' hw => hcv w' (holds_of_abs hw fun R h => hno.later h) (holds_of_abs hw fun R h => ht.later h)) ?_) | (show drawK _ _ _ _ _ _ _ _; refine draw_quiet tabOk mixed (by kernel_rfl) ?_) | (show Wp _ _ _ _ _ _ _; refine Wp.go tabOk rfl ?_) | (show @cmpK _ _ _; (first | refine cmpY ?_ | refine cmpN ?_ | (refine cmp_both ?_ ?_ <;> intro _))) | (show wrapK _ _ _; refine wrapA ?_) | (show leK _ _ _; refine leA ?_) | (show roomK _ _ _; refine roomA ?_) | (show ltK _ _ _; refine ltA ?_) | (show _ ∧ _; refine ⟨?_, ?_⟩) | (show keepK _ _ _ _ _; refine keepA ?_) | refine own_keep ?_ | refine ap_old ?_))
  all_goals (conv => whnf)
  all_goals exact ends_of (fun _ _ h => h) (fun _ => rfl) rfl
set_option maxRecDepth 20000 in
set_option maxHeartbeats 8000000 in
theorem weight5_any (w : World) (n : NodeV) (t : IntsV) (ht : t.ok w) (cnt : Nat) (hc64 : cnt ≤ 64) {i0 i1 i2 : Int} (h : LPool n t.xs cnt i0 i1 i2) (o i : Nat) (ho : o < cnt) (hi : (i : Int) < entries t.xs) : Calls Try.prog 64 #[weigherV n t, .int .i64 o, .int .i64 i] w fun e w' => e = .returned (.int .i64 (wgtI n t.xs o i)) ∧ Ext w w' := by
  have hes := (entries_bd t.xs).2
  obtain ⟨hk, ht3, f0, f1, f2, b0, hz, z1, z2, b1, b2, m1, m2, hcnt, hsz⟩ := h
  obtain ⟨ta, hta⟩ := ht.base (by omega)
  have htr : ∀ (R : Nat → Prop) w', (baseA w).holds R w' → RowsI w' (some ta) 1 (ints t.xs) := fun R w' h => by rw [← hta]; exact rows_base h ht.rows
  have hH := div_pos1 (x := i1) (y := n.size) hz z1
  have hW := div_pos1 (x := i2) (y := n.size) hz z2
  have hH2 := Int.ediv_le_self (a := i1) n.size (by omega)
  have hW2 := Int.ediv_le_self (a := i2) n.size (by omega)
  obtain ⟨_, ix, iy, ic⟩ := pos_split (i := (i : Int)) (I1 := i1) (I2 := i2) (by omega) (by omega) (by omega)
  have d1 := Int.ediv_le_self (a := (i : Int)) i2 (by omega)
  have d2 := Int.ediv_le_self (a := (i : Int) / i2) i1 (Int.ediv_nonneg (by omega) (by omega))
  have hw : wgtI n t.xs o i = if (i : Int) / i2 / i1 ≠ (o : Int) / (i2 / n.size) / (i1 / n.size) ∨ (i : Int) / i2 % i1 / n.size ≠ (o : Int) / (i2 / n.size) % (i1 / n.size) ∨ (i : Int) % i2 / n.size ≠ (o : Int) % (i2 / n.size) then 0 else 1 := by
    unfold wgtI
    rw [if_neg (by omega), if_neg (by omega), f1, f2]
  rw [hw]
  have hsp : ∀ (w' : World), Calls Try.prog 93 #[.int .i64 i, .int .i64 i1, .int .i64 i2] w' fun e w2 => e = .returned (pixV ((i : Int) / i2 / i1) ((i : Int) / i2 % i1) ((i : Int) % i2)) ∧ Ext w' w2 := fun w' => split_any w' i i1 i2 (by omega) (by omega) (by omega)
  have hsp2 : ∀ (w' : World), Calls Try.prog 93 #[.int .i64 o, .int .i64 (i1 / n.size), .int .i64 (i2 / n.size)] w' fun e w2 => e = .returned (pixV ((o : Int) / (i2 / n.size) / (i1 / n.size)) ((o : Int) / (i2 / n.size) % (i1 / n.size)) ((o : Int) % (i2 / n.size))) ∧ Ext w' w2 := fun w' => split_any w' o (i1 / n.size) (i2 / n.size) (by omega) (by omega) (by omega)
  obtain ⟨H, hHd⟩ : ∃ H, i1 / n.size = H := ⟨_, rfl⟩
  obtain ⟨W, hWd⟩ : ∃ W, i2 / n.size = W := ⟨_, rfl⟩
  rw [hHd, hWd] at hsp2 ⊢
  obtain ⟨c, hc⟩ : ∃ c, (i : Int) / i2 / i1 = c := ⟨_, rfl⟩
  obtain ⟨fy, hfy⟩ : ∃ c, (i : Int) / i2 % i1 = c := ⟨_, rfl⟩
  obtain ⟨fx, hfx⟩ : ∃ c, (i : Int) % i2 = c := ⟨_, rfl⟩
  obtain ⟨tc, htc⟩ : ∃ c, (o : Int) / W / H = c := ⟨_, rfl⟩
  obtain ⟨ty, hty⟩ : ∃ c, (o : Int) / W % H = c := ⟨_, rfl⟩
  obtain ⟨tx, htx⟩ : ∃ c, (o : Int) % W = c := ⟨_, rfl⟩
  rw [hc, hfy, hfx] at hsp ⊢
  rw [htc, hty, htx] at hsp2 ⊢
  rw [hfy] at iy
  rw [hfx] at ix
  rw [hc] at ic d2
  refine calls_of tab tabOk Try.func64 rfl rfl rfl [] (fun _ => ⟨none, 0⟩) [.agg [.c (.int .i64 n.kind), .c (.int .i64 n.a), .c (.int .i64 n.b), .c n.shape.val, .c (.int .i64 n.lo), .c (.int .i64 n.hi), .c (.int .i64 n.size), .c n.data.val, .c n.bias.val, .c t.val], .c (.int .i64 o), .c (.int .i64 i)] [] (baseA w) 0 rfl rfl (by show 3 ≤ _; decide) (abs_base w) ?_
  (repeat' ((conv => whnf) <;> first | (show drawK _ 7 _ _ _ _ _ _; refine draw_tree tabOk mixed [] _ dtMK0 (by kernel_rfl) (by kernel_rfl) (by kernel_rfl) (List.Sublist.refl _) ?_) | (show idxK _ _ _ _ _; (first | refine idx_of ta 1 hta rfl (by omega) ?_ | refine idx_of ta 2 hta rfl (by omega) ?_)) | (show roK _ _ _; (first | refine ro_ivM htr (j := 1) (by omega) f1 ?_ | refine ro_ivM htr (j := 2) (by omega) f2 ?_)) | (show divK _ _ _ _; (first | refine div_isM hHd (by omega) (by omega) (by omega) ?_ | refine div_isM hWd (by omega) (by omega) (by omega) ?_ | refine div_isM (x := fy) rfl (by omega) (by omega) (by omega) ?_ | refine div_isM (x := fx) rfl (by omega) (by omega) (by omega) ?_)) | (show callK _ 93 [.c (.int .i64 i), .c (.int .i64 i1), .c (.int .i64 i2)] _ _ _ _; refine call_pure (f := 93) Try.call93 (pixV c fy fx) (fun ρ w' hw => hsp w') ?_) | (show callK _ 93 [.c (.int .i64 o), .c (.int .i64 H), .c (.int .i64 W)] _ _ _ _; refine call_pure (f := 93) Try.call93 (pixV tc ty tx) (fun ρ w' hw => hsp2 w') ?_) | (show drawK _ _ _ _ _ _ _ _; refine draw_quiet tabOk mixed (by kernel_rfl) ?_) | (show Wp _ _ _ _ _ _ _; refine Wp.go tabOk rfl ?_) | (show @cmpK _ _ _; (first | refine cmpY ?_ | refine cmpN ?_ | (refine cmp_both ?_ ?_ <;> intro _))) | (show wrapK _ _ _; refine wrapA ?_) | (show leK _ _ _; refine leA ?_) | (show roomK _ _ _; refine roomA ?_) | (show ltK _ _ _; refine ltA ?_) | (show _ ∧ _; refine ⟨?_, ?_⟩) | (show keepK _ _ _ _ _; refine keepA ?_) | refine own_keep ?_ | refine ap_old ?_))
  all_goals (conv => whnf)
  all_goals first | exact ends_of (fun _ _ h => h) (fun _ => by rw [if_pos (by omega)]; rfl) rfl | exact ends_of (fun _ _ h => h) (fun _ => by rw [if_neg (by omega)]; rfl) rfl
end Go.Proofs.Ytdmkdogakbipbaa

