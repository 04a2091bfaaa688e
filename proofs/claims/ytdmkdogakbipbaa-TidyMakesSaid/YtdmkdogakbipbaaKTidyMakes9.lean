import Derived.Test.YtdmkdogakbipbaaKTidyMakes8
/- JJ -/
namespace Go.Proofs.Ytdmkdogakbipbaa
open Go.SX Go.RowKit
set_option maxRecDepth 20000 in
set_option maxHeartbeats 8000000 in
theorem mat_pool (w : World) (n : NodeV) (t : IntsV) (ht : t.ok w) (hno : n.ok w) (hk : n.kind = 5) (size cnt : Nat) (i0 i1 i2 : Int) (htx : t.xs = [i0, i1, i2]) (hsz : entries t.xs = size) (hs64 : size ≤ 64) (b0 : 1 ≤ i0 ∧ i0 ≤ 64) (b1 : n.size ≤ i1 ∧ i1 ≤ 64) (b2 : n.size ≤ i2 ∧ i2 ≤ 64) (bz : 1 ≤ n.size) (m1 : i1 % n.size = 0) (m2 : i2 % n.size = 0) (hcnt : (cnt : Int) = i0 * (i1 / n.size) * (i2 / n.size)) (hc64 : cnt ≤ 64) (hat : ∀ o : Nat, o < cnt → ∀ s ∈ poolT n.size i1 i2 o, 0 ≤ s.2 ∧ s.2 < size) : Calls Try.prog 66 #[n.valA, t.val] w (MatPost w n t.xs cnt) := by
  obtain ⟨ut, hut⟩ := ht.base (by rw [htx]; simp)
  have hur : ∀ (R : Nat → Prop) w', (baseA w).holds R w' → RowsI w' (some ut) 1 (ints t.xs) := fun R w' h => by rw [← hut]; exact rows_base h ht.rows
  have g0 : t.xs.getD 0 0 = i0 := by rw [htx]; rfl
  have g1 : t.xs.getD 1 0 = i1 := by rw [htx]; rfl
  have g2 : t.xs.getD 2 0 = i2 := by rw [htx]; rfl
  have hz0 : 0 ≤ n.size := Int.le_trans (by decide) bz
  have hW := div_pos1 (x := i2) (y := n.size) bz b2.1
  have hH := div_pos1 (x := i1) (y := n.size) bz b1.1
  have hW2 := Int.ediv_le_self n.size (show 0 ≤ i2 from Int.le_trans hz0 b2.1)
  have hH2 := Int.ediv_le_self n.size (show 0 ≤ i1 from Int.le_trans hz0 b1.1)
  have hTl : ∀ o : Nat, ((poolT n.size i1 i2 o).length : Int) = n.size * n.size := fun o => by
    have : 0 ≤ n.size * n.size := Int.mul_nonneg hz0 hz0
    simp only [poolT, List.length_map, List.length_range]; exact Int.toNat_of_nonneg this
  generalize hWd : i2 / n.size = W at *
  generalize hHd : i1 / n.size = H at *
  have hW0 : 0 ≤ W := Int.le_trans (by decide) hW
  have hH0 : 0 ≤ H := Int.le_trans (by decide) hH
  have hi00 : 0 ≤ i0 := Int.le_trans (by decide) b0.1
  clear m1 m2
  have hl3 : t.xs.length = 3 := by rw [htx]; rfl
  have hd1 : t.xs.getD 1 0 / n.size = H := by rw [g1, hHd]
  have hd2 : t.xs.getD 2 0 / n.size = W := by rw [g2, hWd]
  refine calls_of tab tabOk Try.func66 rfl rfl rfl [] (fun _ => ⟨none, 0⟩) [.agg [.c (.int .i64 n.kind), .c (.int .i64 n.a), .c (.int .i64 n.b), .c n.shape.val, .c (.int .i64 n.lo), .c (.int .i64 n.hi), .c (.int .i64 n.size), .c n.data.val, .c n.bias.val], .c t.val] [] (baseA w) 0 rfl rfl (by show 2 ≤ _; decide) (abs_base w) ?_
  (repeat' ((conv => whnf) <;> first | (show callK _ 34 _ _ _ _ _; refine call_pure (f := 34) Try.call34 (.int .i64 (entries t.xs)) (fun ρ w' hw => refEntries_any w' t.base t.cap t.xs (holds_of_abs hw fun R h => rows_base h ht.rows)) ?_) | (show idxK _ _ _ _ _; refine idx_of _ 1 hut rfl (by omega) ?_) | (show roK _ _ _; refine ro_int hur (j := 1) (by omega) ?_) | (show idxK _ _ _ _ _; refine idx_of _ 2 hut rfl (by omega) ?_) | (show roK _ _ _; refine ro_int hur (j := 2) (by omega) ?_) | (show idxK _ _ _ _ _; refine idx_of _ 0 hut rfl (by omega) ?_) | (show roK _ _ _; refine ro_int hur (j := 0) (by omega) ?_) | (show divK _ _ _ _; (first | refine div_to hd1 (by omega) (by omega) (by omega) ?_ | refine div_to hd2 (by omega) (by omega) (by omega) ?_)) | (show drawK _ 28 _ _ _ _ _ _; refine draw_tree tabOk mixed [25] _ dtJH0 (by kernel_rfl) (by kernel_rfl) (by kernel_rfl) (List.Sublist.refl _) ?_) | (show drawK _ 30 _ _ _ _ _ _; refine draw_tree tabOk mixed [] _ dtJH1 (by kernel_rfl) (by kernel_rfl) (by kernel_rfl) (List.Sublist.refl _) ?_) | (show drawK _ 52 _ _ _ _ _ _; refine draw_tree tabOk mixed [42] _ dtJH2 (by kernel_rfl) (by kernel_rfl) (by kernel_rfl) (List.Sublist.refl _) ?_) | (show drawK _ _ _ _ _ _ _ _; refine draw_quiet tabOk mixed (by kernel_rfl) ?_) | (show Wp _ _ _ _ _ _ _; refine Wp.go tabOk rfl ?_) | (show @cmpK _ _ _; (first | refine cmpY ?_ | refine cmpN ?_ | (refine cmp_both ?_ ?_ <;> intro _))) | (show wrapK _ _ _; refine wrapA ?_) | (show leK _ _ _; refine leA ?_) | (show roomK _ _ _; refine roomA ?_) | (show ltK _ _ _; refine ltA ?_) | (show _ ∧ _; refine ⟨?_, ?_⟩) | (show keepK _ _ _ _ _; refine keepA ?_) | refine own_keep ?_ | refine ap_old ?_))
  refine Wp.loop (σ := Int × Nat × List IntsV) 2 (fun ⟨c, m, us⟩ => [(1, .c t.val), (2, .lp 0 0 0 0), (6, .c (.int .i64 size)), (9, .c (.int .i64 H)), (10, .c (.int .i64 W)), (7, .os 1 m), (11, .c (.int .i64 c))]) (fun ⟨_, _, us⟩ => [(1, .rows (shRows us) 1 33), (0, .box [.c (.int .i64 n.kind), .c (.int .i64 n.a), .c (.int .i64 n.b), .c n.shape.val, .c (.int .i64 n.lo), .c (.int .i64 n.hi), .c (.int .i64 n.size), .c n.data.val, .c n.bias.val] 38)]) (fun ⟨_, _, us⟩ => (baseA w).and (eachA w.heap.size us))
    (fun ⟨c, m, us⟩ => (0 ≤ c ∧ c ≤ i0) ∧ Sofar3 n t.xs us m ∧ (m : Int) = c * H * W) (fun s => (i0 - s.1).toNat) (0, 0, []) [(1, none)] (by decide) (fun s => ⟨rfl, rfl⟩) ⟨⟨Int.le_refl _, hi00⟩, ⟨rfl, fun u hu => by simp at hu⟩, by simp⟩ ⟨rfl, ⟨rfl, rfl, ?_, rfl, rfl, rfl, rfl, trivial⟩, ⟨rfl, (by repeat (first | exact List.mem_cons_self | apply List.mem_cons_of_mem)), trivial⟩, fun R w' h => ⟨h, eachA_nil _ R w'⟩⟩ ?_
  · rw [hsz]; rfl
  rintro ⟨c, m, us⟩ ⟨⟨hc0, hc1⟩, hso, hmc⟩
  by_cases hci : c < i0
  · (repeat' ((conv => whnf) <;> first | (show idxK _ _ _ _ _; refine idx_of _ 0 hut rfl (by omega) ?_) | (show roK _ _ _; refine ro_int (fun R w' h => hur R w' h.1) (j := 0) (by omega) ?_) | (show drawK _ 28 _ _ _ _ _ _; refine draw_tree tabOk mixed [25] _ dtJH0 (by kernel_rfl) (by kernel_rfl) (by kernel_rfl) (List.Sublist.refl _) ?_) | (show drawK _ 30 _ _ _ _ _ _; refine draw_tree tabOk mixed [] _ dtJH1 (by kernel_rfl) (by kernel_rfl) (by kernel_rfl) (List.Sublist.refl _) ?_) | (show drawK _ 52 _ _ _ _ _ _; refine draw_tree tabOk mixed [42] _ dtJH2 (by kernel_rfl) (by kernel_rfl) (by kernel_rfl) (List.Sublist.refl _) ?_) | (show drawK _ _ _ _ _ _ _ _; refine draw_quiet tabOk mixed (by kernel_rfl) ?_) | (show Wp _ _ _ _ _ _ _; refine Wp.go tabOk rfl ?_) | (show @cmpK _ _ _; (first | refine cmpY ?_ | refine cmpN ?_ | (refine cmp_both ?_ ?_ <;> intro _))) | (show wrapK _ _ _; refine wrapA ?_) | (show leK _ _ _; refine leA ?_) | (show roomK _ _ _; refine roomA ?_) | (show ltK _ _ _; refine ltA ?_) | (show _ ∧ _; refine ⟨?_, ?_⟩) | (show keepK _ _ _ _ _; refine keepA ?_) | refine own_keep ?_ | refine ap_old ?_))
    refine Wp.loop (σ := Int × Nat × List IntsV) 3 (fun ⟨y, m, us⟩ => [(1, .c t.val), (2, .lp 0 0 0 0), (6, .c (.int .i64 size)), (9, .c (.int .i64 H)), (10, .c (.int .i64 W)), (7, .os 2 m), (11, .c (.int .i64 c)), (12, .c (.int .i64 y))]) (fun ⟨_, _, us⟩ => [(2, .rows (shRows us) 1 33), (0, .box [.c (.int .i64 n.kind), .c (.int .i64 n.a), .c (.int .i64 n.b), .c n.shape.val, .c (.int .i64 n.lo), .c (.int .i64 n.hi), .c (.int .i64 n.size), .c n.data.val, .c n.bias.val] 38)]) (fun ⟨_, _, us⟩ => (baseA w).and (eachA w.heap.size us))
      (fun ⟨y, m, us⟩ => (0 ≤ y ∧ y ≤ H) ∧ Sofar3 n t.xs us m ∧ (m : Int) = (c * H + y) * W) (fun s => (H - s.1).toNat) (0, m, us) [(2, some 1)] (by decide) (fun s => ⟨rfl, rfl⟩) ⟨⟨Int.le_refl _, hH0⟩, hso, by rw [hmc, Int.add_zero]⟩ ⟨rfl, ⟨rfl, rfl, rfl, rfl, rfl, rfl, rfl, rfl, trivial⟩, ⟨(by repeat (first | exact List.mem_cons_self | apply List.mem_cons_of_mem)), (by repeat (first | exact List.mem_cons_self | apply List.mem_cons_of_mem)), trivial⟩, fun _ _ h => h⟩ ?_
    clear hmc hso
    have hcB : 0 ≤ c ∧ c ≤ 64 := ⟨hc0, Int.le_trans hc1 b0.2⟩
    rintro ⟨y, m, us⟩ ⟨⟨hy0, hy1⟩, hso, hmy⟩
    by_cases hyi : y < H
    · (repeat' ((conv => whnf) <;> first | (show drawK _ 28 _ _ _ _ _ _; refine draw_tree tabOk mixed [25] _ dtJH0 (by kernel_rfl) (by kernel_rfl) (by kernel_rfl) (List.Sublist.refl _) ?_) | (show drawK _ 30 _ _ _ _ _ _; refine draw_tree tabOk mixed [] _ dtJH1 (by kernel_rfl) (by kernel_rfl) (by kernel_rfl) (List.Sublist.refl _) ?_) | (show drawK _ 52 _ _ _ _ _ _; refine draw_tree tabOk mixed [42] _ dtJH2 (by kernel_rfl) (by kernel_rfl) (by kernel_rfl) (List.Sublist.refl _) ?_) | (show drawK _ _ _ _ _ _ _ _; refine draw_quiet tabOk mixed (by kernel_rfl) ?_) | (show Wp _ _ _ _ _ _ _; refine Wp.go tabOk rfl ?_) | (show @cmpK _ _ _; (first | refine cmpY ?_ | refine cmpN ?_ | (refine cmp_both ?_ ?_ <;> intro _))) | (show wrapK _ _ _; refine wrapA ?_) | (show leK _ _ _; refine leA ?_) | (show roomK _ _ _; refine roomA ?_) | (show ltK _ _ _; refine ltA ?_) | (show _ ∧ _; refine ⟨?_, ?_⟩) | (show keepK _ _ _ _ _; refine keepA ?_) | refine own_keep ?_ | refine ap_old ?_))
      refine Wp.loop (σ := Int × Nat × List IntsV) 4 (fun ⟨x, m, us⟩ => [(1, .c t.val), (2, .lp 0 0 0 0), (6, .c (.int .i64 size)), (9, .c (.int .i64 H)), (10, .c (.int .i64 W)), (7, .os 3 m), (11, .c (.int .i64 c)), (12, .c (.int .i64 y)), (13, .c (.int .i64 x))]) (fun ⟨_, _, us⟩ => [(3, .rows (shRows us) 1 33), (0, .box [.c (.int .i64 n.kind), .c (.int .i64 n.a), .c (.int .i64 n.b), .c n.shape.val, .c (.int .i64 n.lo), .c (.int .i64 n.hi), .c (.int .i64 n.size), .c n.data.val, .c n.bias.val] 38)]) (fun ⟨_, _, us⟩ => (baseA w).and (eachA w.heap.size us))
        (fun ⟨x, m, us⟩ => (0 ≤ x ∧ x ≤ W) ∧ Sofar3 n t.xs us m ∧ (m : Int) = (c * H + y) * W + x) (fun s => (W - s.1).toNat) (0, m, us) [(3, some 2)] (by decide) (fun s => ⟨rfl, rfl⟩) ⟨⟨Int.le_refl _, hW0⟩, hso, by rw [hmy, Int.add_zero]⟩ ⟨rfl, ⟨rfl, rfl, rfl, rfl, rfl, rfl, rfl, rfl, rfl, trivial⟩, ⟨(by repeat (first | exact List.mem_cons_self | apply List.mem_cons_of_mem)), (by repeat (first | exact List.mem_cons_self | apply List.mem_cons_of_mem)), trivial⟩, fun _ _ h => h⟩ ?_
      clear hmy hso
      have hyB : 0 ≤ y ∧ y ≤ 64 := ⟨hy0, Int.le_trans hy1 (Int.le_trans hH2 b1.2)⟩
      rintro ⟨x, m, us⟩ ⟨⟨hx0, hx1⟩, hso, hmx⟩
      by_cases hxi : x < W
      · (repeat' ((conv => whnf) <;> first | (show makeK _ _ _ _; (refine make_of size rfl rfl (by show 8 * _ ≤ _; omega) (by omega) ?_)) | (show drawK _ 28 _ _ _ _ _ _; refine draw_tree tabOk mixed [25] _ dtJH0 (by kernel_rfl) (by kernel_rfl) (by kernel_rfl) (List.Sublist.refl _) ?_) | (show drawK _ 30 _ _ _ _ _ _; refine draw_tree tabOk mixed [] _ dtJH1 (by kernel_rfl) (by kernel_rfl) (by kernel_rfl) (List.Sublist.refl _) ?_) | (show drawK _ 52 _ _ _ _ _ _; refine draw_tree tabOk mixed [42] _ dtJH2 (by kernel_rfl) (by kernel_rfl) (by kernel_rfl) (List.Sublist.refl _) ?_) | (show drawK _ _ _ _ _ _ _ _; refine draw_quiet tabOk mixed (by kernel_rfl) ?_) | (show Wp _ _ _ _ _ _ _; refine Wp.go tabOk rfl ?_) | (show @cmpK _ _ _; (first | refine cmpY ?_ | refine cmpN ?_ | (refine cmp_both ?_ ?_ <;> intro _))) | (show wrapK _ _ _; refine wrapA ?_) | (show leK _ _ _; refine leA ?_) | (show roomK _ _ _; refine roomA ?_) | (show ltK _ _ _; refine ltA ?_) | (show _ ∧ _; refine ⟨?_, ?_⟩) | (show keepK _ _ _ _ _; refine keepA ?_) | refine own_keep ?_ | refine ap_old ?_))
        have hmlt : m < cnt := by have := pos_lt hmx hcnt ⟨hx0, hxi⟩ ⟨hy0, hyi⟩ hci; omega
        have hatm := hat m hmlt
        have hTe : ∃ T, T = poolT n.size i1 i2 m := ⟨_, rfl⟩
        obtain ⟨T, hT⟩ := hTe
        have hTz := hTl m
        have hTat : ∀ (p : Nat) (i j : Int) (hp : p < T.length), (p : Int) = i * n.size + j → 0 ≤ j → j < n.size → T[p] = (1, (c * i1 + y * n.size + i) * i2 + x * n.size + j) := fun p i j hp he h0 h1 => poolT_at hT hWd hHd hmx ⟨hx0, hxi⟩ ⟨hy0, hyi⟩ hp he ⟨h0, h1⟩
        have hTb := poolT_bd hT
        have hxB : 0 ≤ x ∧ x ≤ 64 := ⟨hx0, Int.le_trans hx1 (Int.le_trans hW2 b2.2)⟩
        have hzB : 0 ≤ n.size ∧ n.size ≤ 64 := ⟨hz0, Int.le_trans b1.1 b1.2⟩
        have hB1 : 0 ≤ i1 ∧ i1 ≤ 64 := ⟨Int.le_trans hz0 b1.1, b1.2⟩
        have hB2 : 0 ≤ i2 ∧ i2 ≤ 64 := ⟨Int.le_trans hz0 b2.1, b2.2⟩
        rw [← hT] at hatm hTz
        refine Wp.loop (σ := Int × Nat) 5 (fun ⟨i, _⟩ => [(1, .c t.val), (2, .lp 0 0 0 0), (6, .c (.int .i64 size)), (9, .c (.int .i64 H)), (10, .c (.int .i64 W)), (7, .os 3 m), (11, .c (.int .i64 c)), (12, .c (.int .i64 y)), (13, .c (.int .i64 x)), (14, .os 4 size), (15, .c (.int .i64 i))]) (fun ⟨_, p⟩ => [(4, .rows (ints (rowP T size p)) 1 3), (3, .rows (shRows us) 1 33), (0, .box [.c (.int .i64 n.kind), .c (.int .i64 n.a), .c (.int .i64 n.b), .c n.shape.val, .c (.int .i64 n.lo), .c (.int .i64 n.hi), .c (.int .i64 n.size), .c n.data.val, .c n.bias.val] 38)]) (fun _ => (baseA w).and (eachA w.heap.size us))
          (fun ⟨i, p⟩ => (0 ≤ i ∧ i ≤ n.size) ∧ (p : Int) = i * n.size) (fun s => (n.size - s.1).toNat) (0, 0) [] (by decide) (fun s => ⟨rfl, rfl⟩) ⟨⟨Int.le_refl _, hz0⟩, (Int.zero_mul _).symm⟩ ⟨rfl, ⟨rfl, rfl, rfl, rfl, rfl, rfl, rfl, rfl, rfl, rfl, rfl, trivial⟩, ⟨?_, (by repeat (first | exact List.mem_cons_self | apply List.mem_cons_of_mem)), (by repeat (first | exact List.mem_cons_self | apply List.mem_cons_of_mem)), trivial⟩, fun _ _ h => h⟩ ?_
        · have : ints (rowP T size 0) = List.replicate size [Value.int .i64 0] := by simp [ints, rowP]
          show (4, Ent.rows (ints (rowP T size 0)) 1 3) ∈ _
          rw [this]
          exact (by repeat (first | exact List.mem_cons_self | apply List.mem_cons_of_mem))
        rintro ⟨i, p⟩ ⟨⟨hi0, hi1⟩, hpi⟩
        by_cases hii : i < n.size
        · clear hcnt hmx hmlt hso hTl hat hT hTb hsz hno ht hW hH hW2 hH2 hd1 hd2 hWd hHd b1 b2 b0 hc64
          (repeat' ((conv => whnf) <;> first | (show drawK _ 28 _ _ _ _ _ _; refine draw_tree tabOk mixed [25] _ dtJH0 (by kernel_rfl) (by kernel_rfl) (by kernel_rfl) (List.Sublist.refl _) ?_) | (show drawK _ 30 _ _ _ _ _ _; refine draw_tree tabOk mixed [] _ dtJH1 (by kernel_rfl) (by kernel_rfl) (by kernel_rfl) (List.Sublist.refl _) ?_) | (show drawK _ 52 _ _ _ _ _ _; refine draw_tree tabOk mixed [42] _ dtJH2 (by kernel_rfl) (by kernel_rfl) (by kernel_rfl) (List.Sublist.refl _) ?_) | (show drawK _ _ _ _ _ _ _ _; refine draw_quiet tabOk mixed (by kernel_rfl) ?_) | (show Wp _ _ _ _ _ _ _; refine Wp.go tabOk rfl ?_) | (show @cmpK _ _ _; (first | refine cmpY ?_ | refine cmpN ?_ | (refine cmp_both ?_ ?_ <;> intro _))) | (show wrapK _ _ _; refine wrapA ?_) | (show leK _ _ _; refine leA ?_) | (show roomK _ _ _; refine roomA ?_) | (show ltK _ _ _; refine ltA ?_) | (show _ ∧ _; refine ⟨?_, ?_⟩) | (show keepK _ _ _ _ _; refine keepA ?_) | refine own_keep ?_ | refine ap_old ?_))
          refine Wp.loop (σ := Int × Nat) 5 (fun ⟨j, _⟩ => [(1, .c t.val), (2, .lp 0 0 0 0), (6, .c (.int .i64 size)), (9, .c (.int .i64 H)), (10, .c (.int .i64 W)), (7, .os 3 m), (11, .c (.int .i64 c)), (12, .c (.int .i64 y)), (13, .c (.int .i64 x)), (14, .os 4 size), (15, .c (.int .i64 i)), (16, .c (.int .i64 j))]) (fun ⟨_, p⟩ => [(4, .rows (ints (rowP T size p)) 1 3), (3, .rows (shRows us) 1 33), (0, .box [.c (.int .i64 n.kind), .c (.int .i64 n.a), .c (.int .i64 n.b), .c n.shape.val, .c (.int .i64 n.lo), .c (.int .i64 n.hi), .c (.int .i64 n.size), .c n.data.val, .c n.bias.val] 38)]) (fun _ => (baseA w).and (eachA w.heap.size us))
            (fun ⟨j, p⟩ => (0 ≤ j ∧ j ≤ n.size) ∧ (p : Int) = i * n.size + j) (fun s => (n.size - s.1).toNat) (0, p) [] (by decide) (fun s => ⟨rfl, rfl⟩) ⟨⟨Int.le_refl _, hz0⟩, by rw [hpi, Int.add_zero]⟩ ⟨rfl, ⟨rfl, rfl, rfl, rfl, rfl, rfl, rfl, rfl, rfl, rfl, rfl, rfl, trivial⟩, ⟨(by repeat (first | exact List.mem_cons_self | apply List.mem_cons_of_mem)), (by repeat (first | exact List.mem_cons_self | apply List.mem_cons_of_mem)), (by repeat (first | exact List.mem_cons_self | apply List.mem_cons_of_mem)), trivial⟩, fun _ _ h => h⟩ ?_
          rintro ⟨j, p⟩ ⟨⟨hj0, hj1⟩, hpj⟩
          by_cases hji : j < n.size
          · have hpT : p < T.length := by have := sq_lt hTz hpj hii ⟨hj0, hji⟩; omega
            have hTp := hTat p i j hpT hpj hj0 hji
            have hb := hatm _ (List.getElem_mem hpT)
            have hsu := rowP_succ (size := size) hpT
            rw [hTp] at hb hsu
            have E := ix_bd (c := c) (i1 := i1) (y := y) (z := n.size) (i := i) (i2 := i2) (x := x) hcB hB1 hyB hzB ⟨hi0, Int.le_trans hi1 hzB.2⟩ hB2 hxB
            have e1 := E.1
            have e2 := E.2.1
            have e3 := E.2.2.1
            have e4 := E.2.2.2
            clear E
            have hb2 : 0 ≤ (c * i1 + y * n.size + i) * i2 + x * n.size + j ∧ (c * i1 + y * n.size + i) * i2 + x * n.size + j < size := hb
            have hex : ∃ r : Nat, (c * i1 + y * n.size + i) * i2 + x * n.size + j = r := ⟨_, (Int.toNat_of_nonneg hb2.1).symm⟩
            obtain ⟨r, hr⟩ := hex
            rw [hr] at hsu hb2
            have hrl : r < size := Int.ofNat_lt.1 hb2.2
            clear hTat hatm hTp hTz hpi hb hb2
            (repeat' ((conv => whnf) <;> first | (show idxK _ _ _ _ _; (first | refine idx_of _ 1 hut rfl (by omega) ?_ | refine idx_of _ 2 hut rfl (by omega) ?_)) | (show roK _ _ _; (first | refine ro_intv (fun R w' h => hur R w' h.1) (j := 1) (by omega) g1 ?_ | refine ro_intv (fun R w' h => hur R w' h.1) (j := 2) (by omega) g2 ?_)) | (show idxRowK _ _ _ _ _ _; (refine idxRow_of r hr hrl (by rw [ints_length, rowP_length]; exact Nat.le_refl _) ?_)) | (show rowStoreK _ _ _ _ _; (refine ints_store (by rw [rowP_length]; exact hrl) ?_)) | (show drawK _ 28 _ _ _ _ _ _; refine draw_tree tabOk mixed [25] _ dtJH0 (by kernel_rfl) (by kernel_rfl) (by kernel_rfl) (List.Sublist.refl _) ?_) | (show drawK _ 30 _ _ _ _ _ _; refine draw_tree tabOk mixed [] _ dtJH1 (by kernel_rfl) (by kernel_rfl) (by kernel_rfl) (List.Sublist.refl _) ?_) | (show drawK _ 52 _ _ _ _ _ _; refine draw_tree tabOk mixed [42] _ dtJH2 (by kernel_rfl) (by kernel_rfl) (by kernel_rfl) (List.Sublist.refl _) ?_) | (show drawK _ _ _ _ _ _ _ _; refine draw_quiet tabOk mixed (by kernel_rfl) ?_) | (show Wp _ _ _ _ _ _ _; refine Wp.go tabOk rfl ?_) | (show @cmpK _ _ _; (first | refine cmpY ?_ | refine cmpN ?_ | (refine cmp_both ?_ ?_ <;> intro _))) | (show wrapK _ _ _; refine wrapA ?_) | (show leK _ _ _; refine leA ?_) | (show roomK _ _ _; refine roomA ?_) | (show ltK _ _ _; refine ltA ?_) | (show _ ∧ _; refine ⟨?_, ?_⟩) | (show keepK _ _ _ _ _; refine keepA ?_) | refine own_keep ?_ | refine ap_old ?_))
            all_goals (conv => whnf)
            exact ⟨(j + 1, p + 1), [], ⟨⟨Int.le_add_one hj0, hji⟩, by rw [Int.natCast_add, hpj, Int.add_assoc]; rfl⟩, by simp only; omega, rfl, ⟨rfl, rfl, rfl, rfl, rfl, rfl, rfl, rfl, rfl, rfl, rfl, rfl, trivial⟩, ⟨by
              show (4, Ent.rows (ints (rowP T size (p + 1))) 1 3) ∈ _
              rw [hsu]; exact (by repeat (first | exact List.mem_cons_self | apply List.mem_cons_of_mem)), (by repeat (first | exact List.mem_cons_self | apply List.mem_cons_of_mem)), (by repeat (first | exact List.mem_cons_self | apply List.mem_cons_of_mem)), trivial⟩, fun _ _ h => h⟩
          · have hjz : j = n.size := Int.le_antisymm hj1 (Int.not_lt.1 hji)
            subst hjz
            (repeat' ((conv => whnf) <;> first | (show drawK _ 28 _ _ _ _ _ _; refine draw_tree tabOk mixed [25] _ dtJH0 (by kernel_rfl) (by kernel_rfl) (by kernel_rfl) (List.Sublist.refl _) ?_) | (show drawK _ 30 _ _ _ _ _ _; refine draw_tree tabOk mixed [] _ dtJH1 (by kernel_rfl) (by kernel_rfl) (by kernel_rfl) (List.Sublist.refl _) ?_) | (show drawK _ 52 _ _ _ _ _ _; refine draw_tree tabOk mixed [42] _ dtJH2 (by kernel_rfl) (by kernel_rfl) (by kernel_rfl) (List.Sublist.refl _) ?_) | (show drawK _ _ _ _ _ _ _ _; refine draw_quiet tabOk mixed (by kernel_rfl) ?_) | (show Wp _ _ _ _ _ _ _; refine Wp.go tabOk rfl ?_) | (show @cmpK _ _ _; (first | refine cmpY ?_ | refine cmpN ?_ | (refine cmp_both ?_ ?_ <;> intro _))) | (show wrapK _ _ _; refine wrapA ?_) | (show leK _ _ _; refine leA ?_) | (show roomK _ _ _; refine roomA ?_) | (show ltK _ _ _; refine ltA ?_) | (show _ ∧ _; refine ⟨?_, ?_⟩) | (show keepK _ _ _ _ _; refine keepA ?_) | refine own_keep ?_ | refine ap_old ?_))
            all_goals (conv => whnf)
            exact ⟨(i + 1, p), [], ⟨⟨Int.le_add_one hi0, hii⟩, by rw [hpj, Int.add_mul, Int.one_mul]⟩, by simp only; omega, rfl, ⟨rfl, rfl, rfl, rfl, rfl, rfl, rfl, rfl, rfl, rfl, rfl, trivial⟩, ⟨(by repeat (first | exact List.mem_cons_self | apply List.mem_cons_of_mem)), (by repeat (first | exact List.mem_cons_self | apply List.mem_cons_of_mem)), (by repeat (first | exact List.mem_cons_self | apply List.mem_cons_of_mem)), trivial⟩, fun _ _ h => h⟩
        · have hiz : i = n.size := Int.le_antisymm hi1 (Int.not_lt.1 hii)
          subst hiz
          have hpT : p = T.length := Int.ofNat.inj (hpi.trans hTz.symm)
          refine Wp.freezeN 4 w.heap.size (k := 1) (xs := ints (rowP T size p)) (T := 3) (by repeat (first | exact List.mem_cons_self | apply List.mem_cons_of_mem)) (fun R w' h b hb => (h.1 b hb).1) (fun l1 hl1 => ?_)
          rw [ints_length, rowP_length] at hl1
          have hml : us.length = m := hso.len
          clear hcnt hpi hTz hTat hatm hTl hat
          (repeat' ((conv => whnf) <;> first | (show leK _ _ _; (refine le_of (by rw [shRows_length, hml]; exact Nat.le_refl _) ?_)) | (show roomK _ _ _; (refine room_of (by show (m + 1) * 24 ≤ 140737488355328; omega) ?_)) | (show drawK _ 28 _ _ _ _ _ _; refine draw_tree tabOk mixed [25] _ dtJH0 (by kernel_rfl) (by kernel_rfl) (by kernel_rfl) (List.Sublist.refl _) ?_) | (show drawK _ 30 _ _ _ _ _ _; refine draw_tree tabOk mixed [] _ dtJH1 (by kernel_rfl) (by kernel_rfl) (by kernel_rfl) (List.Sublist.refl _) ?_) | (show drawK _ 52 _ _ _ _ _ _; refine draw_tree tabOk mixed [42] _ dtJH2 (by kernel_rfl) (by kernel_rfl) (by kernel_rfl) (List.Sublist.refl _) ?_) | (show drawK _ _ _ _ _ _ _ _; refine draw_quiet tabOk mixed (by kernel_rfl) ?_) | (show Wp _ _ _ _ _ _ _; refine Wp.go tabOk rfl ?_) | (show @cmpK _ _ _; (first | refine cmpY ?_ | refine cmpN ?_ | (refine cmp_both ?_ ?_ <;> intro _))) | (show wrapK _ _ _; refine wrapA ?_) | (show leK _ _ _; refine leA ?_) | (show roomK _ _ _; refine roomA ?_) | (show ltK _ _ _; refine ltA ?_) | (show _ ∧ _; refine ⟨?_, ?_⟩) | (show keepK _ _ _ _ _; refine keepA ?_) | refine own_keep ?_ | refine ap_old ?_))
          all_goals (conv => whnf)
          exact ⟨(x + 1, m + 1, us ++ [IntsV.mk l1.base l1.cap (rowP T size p)]), [(3, some 6)], ⟨⟨Int.le_add_one hx0, hxi⟩, hso.next ⟨fun v hv => by have := rowP_bd hTb v hv; unfold bd20 at this; exact ⟨by omega, by omega⟩, by rw [rowP_length]; exact hl1, by rw [rowP_length]; omega⟩ (pool_row hk hsz m (hT.trans (by rw [g1, g2])) hpT), by rw [Int.natCast_add, hmx, Int.add_assoc]; rfl⟩, by simp only; omega, rfl, ⟨rfl, rfl, rfl, rfl, rfl, rfl, rfl, rfl, rfl, trivial⟩, ⟨rows_snocM us l1.base l1.cap (rowP T size p) hml.symm (rowP_length _ _ _).symm, (by repeat (first | exact List.mem_cons_self | apply List.mem_cons_of_mem)), trivial⟩, fun R w' h => ⟨h.1.1, eachA_snoc h.1.2 h.2⟩⟩
      · have hxz : x = W := Int.le_antisymm hx1 (Int.not_lt.1 hxi)
        subst hxz
        (repeat' ((conv => whnf) <;> first | (show drawK _ 28 _ _ _ _ _ _; refine draw_tree tabOk mixed [25] _ dtJH0 (by kernel_rfl) (by kernel_rfl) (by kernel_rfl) (List.Sublist.refl _) ?_) | (show drawK _ 30 _ _ _ _ _ _; refine draw_tree tabOk mixed [] _ dtJH1 (by kernel_rfl) (by kernel_rfl) (by kernel_rfl) (List.Sublist.refl _) ?_) | (show drawK _ 52 _ _ _ _ _ _; refine draw_tree tabOk mixed [42] _ dtJH2 (by kernel_rfl) (by kernel_rfl) (by kernel_rfl) (List.Sublist.refl _) ?_) | (show drawK _ _ _ _ _ _ _ _; refine draw_quiet tabOk mixed (by kernel_rfl) ?_) | (show Wp _ _ _ _ _ _ _; refine Wp.go tabOk rfl ?_) | (show @cmpK _ _ _; (first | refine cmpY ?_ | refine cmpN ?_ | (refine cmp_both ?_ ?_ <;> intro _))) | (show wrapK _ _ _; refine wrapA ?_) | (show leK _ _ _; refine leA ?_) | (show roomK _ _ _; refine roomA ?_) | (show ltK _ _ _; refine ltA ?_) | (show _ ∧ _; refine ⟨?_, ?_⟩) | (show keepK _ _ _ _ _; refine keepA ?_) | refine own_keep ?_ | refine ap_old ?_))
        all_goals (conv => whnf)
        exact ⟨(y + 1, m, us), [(2, some 3)], ⟨⟨by omega, by omega⟩, hso, by rw [hmx]; grind⟩, by simp only; omega, rfl, ⟨rfl, rfl, rfl, rfl, rfl, rfl, rfl, rfl, trivial⟩, ⟨(by repeat (first | exact List.mem_cons_self | apply List.mem_cons_of_mem)), (by repeat (first | exact List.mem_cons_self | apply List.mem_cons_of_mem)), trivial⟩, fun _ _ h => h⟩
    · have hyz : y = H := Int.le_antisymm hy1 (Int.not_lt.1 hyi)
      subst hyz
      (repeat' ((conv => whnf) <;> first | (show drawK _ 28 _ _ _ _ _ _; refine draw_tree tabOk mixed [25] _ dtJH0 (by kernel_rfl) (by kernel_rfl) (by kernel_rfl) (List.Sublist.refl _) ?_) | (show drawK _ 30 _ _ _ _ _ _; refine draw_tree tabOk mixed [] _ dtJH1 (by kernel_rfl) (by kernel_rfl) (by kernel_rfl) (List.Sublist.refl _) ?_) | (show drawK _ 52 _ _ _ _ _ _; refine draw_tree tabOk mixed [42] _ dtJH2 (by kernel_rfl) (by kernel_rfl) (by kernel_rfl) (List.Sublist.refl _) ?_) | (show drawK _ _ _ _ _ _ _ _; refine draw_quiet tabOk mixed (by kernel_rfl) ?_) | (show Wp _ _ _ _ _ _ _; refine Wp.go tabOk rfl ?_) | (show @cmpK _ _ _; (first | refine cmpY ?_ | refine cmpN ?_ | (refine cmp_both ?_ ?_ <;> intro _))) | (show wrapK _ _ _; refine wrapA ?_) | (show leK _ _ _; refine leA ?_) | (show roomK _ _ _; refine roomA ?_) | (show ltK _ _ _; refine ltA ?_) | (show _ ∧ _; refine ⟨?_, ?_⟩) | (show keepK _ _ _ _ _; refine keepA ?_) | refine own_keep ?_ | refine ap_old ?_))
      all_goals (conv => whnf)
      exact ⟨(c + 1, m, us), [(1, some 2)], ⟨⟨by omega, by omega⟩, hso, by rw [hmy]; grind⟩, by simp only; omega, rfl, ⟨rfl, rfl, rfl, rfl, rfl, rfl, rfl, trivial⟩, ⟨(by repeat (first | exact List.mem_cons_self | apply List.mem_cons_of_mem)), (by repeat (first | exact List.mem_cons_self | apply List.mem_cons_of_mem)), trivial⟩, fun _ _ h => h⟩
  · obtain rfl : c = i0 := Int.le_antisymm hc1 (Int.not_lt.1 hci)
    have hmcnt : m = cnt := by omega
    subst hmcnt
    (repeat' ((conv => whnf) <;> first | (show idxK _ _ _ _ _; refine idx_of _ 0 hut rfl (by omega) ?_) | (show roK _ _ _; refine ro_int (fun R w' h => hur R w' h.1) (j := 0) (by omega) ?_) | (show makeK _ _ _ _; (refine make_of m rfl rfl (by show 8 * _ ≤ _; omega) (by omega) ?_)) | (show drawK _ 28 _ _ _ _ _ _; refine draw_tree tabOk mixed [25] _ dtJH0 (by kernel_rfl) (by kernel_rfl) (by kernel_rfl) (List.Sublist.refl _) ?_) | (show drawK _ 30 _ _ _ _ _ _; refine draw_tree tabOk mixed [] _ dtJH1 (by kernel_rfl) (by kernel_rfl) (by kernel_rfl) (List.Sublist.refl _) ?_) | (show drawK _ 52 _ _ _ _ _ _; refine draw_tree tabOk mixed [42] _ dtJH2 (by kernel_rfl) (by kernel_rfl) (by kernel_rfl) (List.Sublist.refl _) ?_) | (show drawK _ _ _ _ _ _ _ _; refine draw_quiet tabOk mixed (by kernel_rfl) ?_) | (show Wp _ _ _ _ _ _ _; refine Wp.go tabOk rfl ?_) | (show @cmpK _ _ _; (first | refine cmpY ?_ | refine cmpN ?_ | (refine cmp_both ?_ ?_ <;> intro _))) | (show wrapK _ _ _; refine wrapA ?_) | (show leK _ _ _; refine leA ?_) | (show roomK _ _ _; refine roomA ?_) | (show ltK _ _ _; refine ltA ?_) | (show _ ∧ _; refine ⟨?_, ?_⟩) | (show keepK _ _ _ _ _; refine keepA ?_) | refine own_keep ?_ | refine ap_old ?_))
    all_goals (conv => whnf)
    refine mat_end_new (i := 1) (j := 2) (B := ⟨w, []⟩) (S := (baseA w).and (eachA w.heap.size us)) (bs := List.replicate m 0) (fun _ _ h => h.1) (fun _ _ h => h.2) rfl (by repeat (first | exact List.mem_cons_self | apply List.mem_cons_of_mem)) (by rw [ints_zeros]; exact (by repeat (first | exact List.mem_cons_self | apply List.mem_cons_of_mem))) hso.len.symm (by rw [List.length_replicate]) hso ?_ (fun x hx => by rw [(List.mem_replicate.1 hx).2]; exact ⟨by decide, by decide⟩) (by rw [List.length_replicate]; omega)
    unfold matBias
    apply List.ext_getElem
    · simp
    · intro k g1 g2
      rw [List.getElem_map, List.getElem_range, List.getElem_replicate]
      unfold biasI
      rw [if_neg (by omega), if_neg (by omega)]
end Go.Proofs.Ytdmkdogakbipbaa

/- JK -/
namespace Go.Proofs.Ytdmkdogakbipbaa
open Go.SX Go.RowKit
theorem lin_lt {o k1 c k0 : Int} (ho : 0 ≤ o ∧ o < k0) (hc : 0 ≤ c ∧ c < k1) : o * k1 + c < k0 * k1 := by
  have u : (o + 1) * k1 ≤ k0 * k1 := Int.mul_le_mul_of_nonneg_right (by omega) (by omega)
  rw [Int.add_mul, Int.one_mul] at u
  omega
theorem convT_at {T : List Sp} {d : List Int} {k1 k2 k3 i1 i2 W H o y x c i j : Int} {m p q : Nat} (hT : T = convT d k1 k2 k3 i1 i2 m) (hWd : i2 - k3 + 1 = W) (hHd : i1 - k2 + 1 = H) (hmx : (m : Int) = (o * H + y) * W + x) (hx : 0 ≤ x ∧ x < W) (hy : 0 ≤ y ∧ y < H) (hp : p < T.length) (he : (p : Int) = (c * k2 + i) * k3 + j) (hi : 0 ≤ i ∧ i < k2) (hj : 0 ≤ j ∧ j < k3) (hq : ((o * k1 + c) * k2 + i) * k3 + j = q) : T[p] = (d.getD q 0, (c * i1 + y + i) * i2 + x + j) := by
  subst hT
  have h1 := pos3 hmx hx hy
  have h2 := pos3 he hj hi
  have h3 : (o * k1 * k2 * k3 + (p : Int)).toNat = q := by
    have : o * k1 * k2 * k3 + (p : Int) = q := by rw [he, ← hq]; grind
    rw [this]; rfl
  simp only [convT, List.getElem_map, List.getElem_range]
  unfold convTerm
  rw [hWd, hHd, h1.1, h1.2.1, h1.2.2, h2.1, h2.2.1, h2.2.2, h3]
theorem bias_idx {cnt len m : Nat} {k0 H W o y x : Int} (hcnt : (cnt : Int) = k0 * H * W) (hbl : (len : Int) = k0) (hk : 0 < k0) (hm : (m : Int) = (o * H + y) * W + x) (hx : 0 ≤ x ∧ x < W) (hy : 0 ≤ y ∧ y < H) (ho : 0 ≤ o) : m / (cnt / len) = o.toNat := by
  have e1 : ((cnt / len : Nat) : Int) = H * W := by rw [Int.natCast_ediv, hcnt, hbl, Int.mul_assoc]; exact Int.mul_ediv_cancel_left _ (by omega)
  have e2 : ((m / (cnt / len) : Nat) : Int) = o := by
    rw [Int.natCast_ediv, e1, hm]
    have e : (o * H + y) * W + x = o * (H * W) + (y * W + x) := by grind
    rw [e]
    have b : y * W + x < H * W := lin_lt hy hx
    have b0 := Int.mul_nonneg hy.1 (show 0 ≤ W by omega)
    exact (mul_add_div ⟨by omega, b⟩).1
  omega
theorem conv_row {n : NodeV} {t : IntsV} (hk : n.kind = 4) {size : Nat} (hsz : entries t.xs = size) (o : Nat) {T : List Sp} (hT : T = convT n.data.xs (n.shape.xs.getD 1 0) (n.shape.xs.getD 2 0) (n.shape.xs.getD 3 0) (t.xs.getD 1 0) (t.xs.getD 2 0) o) {m : Nat} (hm : m = T.length) : rowP T size m = matRow n t.xs o := by
  subst hT hm
  unfold matRow termsG rowP
  rw [if_neg (by omega), if_neg (by omega), if_pos hk, List.take_of_length_le (Nat.le_refl _), hsz]; rfl
theorem convT_bd {T : List Sp} {d : List Int} {k1 k2 k3 i1 i2 o : Int} (hd : ∀ x ∈ d, bd20 x) (hT : T = convT d k1 k2 k3 i1 i2 o) : ∀ t ∈ T, bd20 t.1 := fun t ht => by
  subst hT
  obtain ⟨k, _, rfl⟩ := List.mem_map.1 ht
  exact getD_bd hd _
structure IxC (c i1 y i i2 x j o k1 k2 k3 : Int) : Prop where
  a1 : 0 ≤ c * i1 ∧ c * i1 ≤ 4096
  a2 : 0 ≤ (c * i1 + y + i) * i2 ∧ (c * i1 + y + i) * i2 ≤ 270336
  a3 : 0 ≤ o * k1 ∧ o * k1 ≤ 4096
  a4 : 0 ≤ (o * k1 + c) * k2 ∧ (o * k1 + c) * k2 ≤ 266240
  a5 : 0 ≤ ((o * k1 + c) * k2 + i) * k3 ∧ ((o * k1 + c) * k2 + i) * k3 ≤ 17043456
abbrev B64 (x : Int) : Prop := 0 ≤ x ∧ x ≤ 64
theorem ix_c {c i1 y i i2 x j o k1 k2 k3 : Int} (hc : B64 c) (h1 : B64 i1) (hy : B64 y) (hi : B64 i) (h2 : B64 i2) (ho : B64 o) (g1 : B64 k1) (g2 : B64 k2) (g3 : B64 k3) : IxC c i1 y i i2 x j o k1 k2 k3 := by
  have e1 := nn_bd (a := c) (b := i1) (A := 64) (B := 64) hc h1
  have e2 := nn_bd (a := c * i1 + y + i) (b := i2) (A := 4224) (B := 64) (by omega) h2
  have e3 := nn_bd (a := o) (b := k1) (A := 64) (B := 64) ho g1
  have e4 := nn_bd (a := o * k1 + c) (b := k2) (A := 4160) (B := 64) (by omega) g2
  have e5 := nn_bd (a := (o * k1 + c) * k2 + i) (b := k3) (A := 266304) (B := 64) (by omega) g3
  exact ⟨e1, e2, e3, e4, e5⟩
structure SofarC (n : NodeV) (tl : List Int) (cnt : Nat) (us : List IntsV) (bs : List Int) (m : Nat) : Prop where
  rows : Sofar3 n tl us m
  bias : bs = (List.range m).map (biasI n cnt)
theorem SofarC.blen {n : NodeV} {tl : List Int} {cnt : Nat} {us : List IntsV} {bs : List Int} {m : Nat} (h : SofarC n tl cnt us bs m) : bs.length = m := by rw [h.bias]; simp
theorem SofarC.next {n : NodeV} {tl : List Int} {cnt : Nat} {us : List IntsV} {bs : List Int} {m : Nat} {u : IntsV} {b : Int} (h : SofarC n tl cnt us bs m) (hu : u.sane) (hx : u.xs = matRow n tl m) (hb : biasI n cnt m = b) : SofarC n tl cnt (us ++ [u]) (bs ++ [b]) (m + 1) :=
  ⟨h.rows.next hu hx, by rw [h.bias, ← hb, List.range_succ, List.map_append]; rfl⟩
theorem ints_snocM (bs : List Int) (x : Int) {m : Nat} (hm : m = bs.length) {i : Nat} {T : TypeId} {H : Heap} : (i, Ent.rows (ints (bs ++ [x])) 1 T) ∈ (i, Ent.rows (List.take m (ints bs) ++ [[.int .i64 x]]) 1 T) :: H := by
  subst hm; exact ints_snoc bs x
end Go.Proofs.Ytdmkdogakbipbaa

/- JL -/
namespace Go.Proofs.Ytdmkdogakbipbaa
open Go.SX Go.RowKit
set_option maxRecDepth 20000 in
set_option maxHeartbeats 8000000 in
theorem mat_conv (w : World) (n : NodeV) (t : IntsV) (ht : t.ok w) (hno : n.ok w) (hk : n.kind = 4) (size cnt : Nat) (k0 k1 k2 k3 i1 i2 : Int) (hsx : n.shape.xs = [k0, k1, k2, k3]) (htx : t.xs = [k1, i1, i2]) (hsz : entries t.xs = size) (hs64 : size ≤ 64) (b0 : 1 ≤ k0 ∧ k0 ≤ 64) (b1 : 1 ≤ k1 ∧ k1 ≤ 64) (b2 : 1 ≤ k2 ∧ k2 ≤ i1) (b3 : 1 ≤ k3 ∧ k3 ≤ i2) (bi1 : i1 ≤ 64) (bi2 : i2 ≤ 64) (hdl : (n.data.xs.length : Int) = k0 * k1 * k2 * k3) (hbl : (n.bias.xs.length : Int) = k0) (hdb : ∀ x ∈ n.data.xs, bd20 x) (hbb : ∀ x ∈ n.bias.xs, bd20 x) (hcnt : (cnt : Int) = k0 * (i1 - k2 + 1) * (i2 - k3 + 1)) (hc64 : cnt ≤ 64) (hat : ∀ o : Nat, o < cnt → ∀ s ∈ convT n.data.xs k1 k2 k3 i1 i2 o, 0 ≤ s.2 ∧ s.2 < size) : Calls Try.prog 66 #[n.valA, t.val] w (MatPost w n t.xs cnt) := by
  have hdpos : 0 < n.data.xs.length := by
    have := Int.mul_pos (Int.mul_pos (Int.mul_pos (show 0 < k0 by omega) (show 0 < k1 by omega)) (show 0 < k2 by omega)) (show 0 < k3 by omega)
    omega
  obtain ⟨ut, hut⟩ := ht.base (by rw [htx]; simp)
  obtain ⟨ua, hus⟩ := hno.shape.base (by rw [hsx]; simp)
  obtain ⟨ub, hub⟩ := hno.bias.base (by omega)
  obtain ⟨ud, hud⟩ := hno.data.base hdpos
  have hur : ∀ (R : Nat → Prop) w', (baseA w).holds R w' → RowsI w' (some ut) 1 (ints t.xs) := fun R w' h => by rw [← hut]; exact rows_base h ht.rows
  have hsr : ∀ (R : Nat → Prop) w', (baseA w).holds R w' → RowsI w' (some ua) 1 (ints n.shape.xs) := fun R w' h => by rw [← hus]; exact rows_base h hno.shape.rows
  have hbr : ∀ (R : Nat → Prop) w', (baseA w).holds R w' → RowsI w' (some ub) 1 (ints n.bias.xs) := fun R w' h => by rw [← hub]; exact rows_base h hno.bias.rows
  have hdr : ∀ (R : Nat → Prop) w', (baseA w).holds R w' → RowsI w' (some ud) 1 (ints n.data.xs) := fun R w' h => by rw [← hud]; exact rows_base h hno.data.rows
  have g1 : t.xs.getD 1 0 = i1 := by rw [htx]; rfl
  have g2 : t.xs.getD 2 0 = i2 := by rw [htx]; rfl
  have s0 : n.shape.xs.getD 0 0 = k0 := by rw [hsx]; rfl
  have s1 : n.shape.xs.getD 1 0 = k1 := by rw [hsx]; rfl
  have s2 : n.shape.xs.getD 2 0 = k2 := by rw [hsx]; rfl
  have s3 : n.shape.xs.getD 3 0 = k3 := by rw [hsx]; rfl
  have hl3 : t.xs.length = 3 := by rw [htx]; rfl
  have hl4 : n.shape.xs.length = 4 := by rw [hsx]; rfl
  obtain ⟨H, hHd⟩ : ∃ H, i1 - k2 + 1 = H := ⟨_, rfl⟩
  obtain ⟨W, hWd⟩ : ∃ W, i2 - k3 + 1 = W := ⟨_, rfl⟩
  rw [hHd, hWd] at hcnt
  have hH0 : 0 ≤ H := by omega
  have hW0 : 0 ≤ W := by omega
  have hTl : ∀ o : Nat, ((convT n.data.xs k1 k2 k3 i1 i2 o).length : Int) = k1 * k2 * k3 := fun o => by
    have : 0 ≤ k1 * k2 * k3 := Int.mul_nonneg (Int.mul_nonneg (by omega) (by omega)) (by omega)
    simp only [convT, List.length_map, List.length_range]; exact Int.toNat_of_nonneg this
  have c1 : B64 k1 := ⟨by omega, b1.2⟩
  have c2 : B64 k2 := ⟨by omega, by omega⟩
  have c3 : B64 k3 := ⟨by omega, by omega⟩
  have ci1 : B64 i1 := ⟨by omega, bi1⟩
  have ci2 : B64 i2 := ⟨by omega, bi2⟩
  refine calls_of tab tabOk Try.func66 rfl rfl rfl [] (fun _ => ⟨none, 0⟩) [.agg [.c (.int .i64 n.kind), .c (.int .i64 n.a), .c (.int .i64 n.b), .c n.shape.val, .c (.int .i64 n.lo), .c (.int .i64 n.hi), .c (.int .i64 n.size), .c n.data.val, .c n.bias.val], .c t.val] [] (baseA w) 0 rfl rfl (by show 2 ≤ _; decide) (abs_base w) ?_
  (repeat' ((conv => whnf) <;> first | (show callK _ 34 _ _ _ _ _; refine call_pure (f := 34) Try.call34 (.int .i64 (entries t.xs)) (fun ρ w' hw => refEntries_any w' t.base t.cap t.xs (holds_of_abs hw fun R h => rows_base h ht.rows)) ?_) | (show idxK _ _ _ _ _; (first | refine idx_of _ 1 hut rfl (by omega) ?_ | refine idx_of _ 2 hut rfl (by omega) ?_ | refine idx_of _ 0 hus rfl (by omega) ?_ | refine idx_of _ 1 hus rfl (by omega) ?_ | refine idx_of _ 2 hus rfl (by omega) ?_ | refine idx_of _ 3 hus rfl (by omega) ?_)) | (show roK _ _ _; (first | refine ro_intv (fun R w' h => hur R w' h.1) (j := 1) (by omega) g1 ?_ | refine ro_intv (fun R w' h => hur R w' h.1) (j := 2) (by omega) g2 ?_ | refine ro_intv (fun R w' h => hsr R w' h.1) (j := 0) (by omega) s0 ?_ | refine ro_intv (fun R w' h => hsr R w' h.1) (j := 1) (by omega) s1 ?_ | refine ro_intv (fun R w' h => hsr R w' h.1) (j := 2) (by omega) s2 ?_ | refine ro_intv (fun R w' h => hsr R w' h.1) (j := 3) (by omega) s3 ?_)) | (show drawK _ 28 _ _ _ _ _ _; refine draw_tree tabOk mixed [25] _ dtJH0 (by kernel_rfl) (by kernel_rfl) (by kernel_rfl) (List.Sublist.refl _) ?_) | (show drawK _ 30 _ _ _ _ _ _; refine draw_tree tabOk mixed [] _ dtJH1 (by kernel_rfl) (by kernel_rfl) (by kernel_rfl) (List.Sublist.refl _) ?_) | (show drawK _ 52 _ _ _ _ _ _; refine draw_tree tabOk mixed [42] _ dtJH2 (by kernel_rfl) (by kernel_rfl) (by kernel_rfl) (List.Sublist.refl _) ?_) | (show drawK _ _ _ _ _ _ _ _; refine draw_quiet tabOk mixed (by kernel_rfl) ?_) | (show Wp _ _ _ _ _ _ _; refine Wp.go tabOk rfl ?_) | (show @cmpK _ _ _; (first | refine cmpY ?_ | refine cmpN ?_ | (refine cmp_both ?_ ?_ <;> intro _))) | (show wrapK _ _ _; refine wrapA ?_) | (show leK _ _ _; refine leA ?_) | (show roomK _ _ _; refine roomA ?_) | (show ltK _ _ _; refine ltA ?_) | (show _ ∧ _; refine ⟨?_, ?_⟩) | (show keepK _ _ _ _ _; refine keepA ?_) | refine own_keep ?_ | refine ap_old ?_))
  refine Wp.loop (σ := Int × Nat × List IntsV × List Int) 3 (fun ⟨o, m, us, bs⟩ => [(1, .c t.val), (2, .lp 0 0 0 0), (6, .c (.int .i64 size)), (18, .c n.shape.val), (7, .os 1 m), (17, .os 2 m), (19, .c (.int .i64 o))]) (fun ⟨_, _, us, bs⟩ => [(1, .rows (shRows us) 1 33), (2, .rows (ints bs) 1 3), (0, .box [.c (.int .i64 n.kind), .c (.int .i64 n.a), .c (.int .i64 n.b), .c n.shape.val, .c (.int .i64 n.lo), .c (.int .i64 n.hi), .c (.int .i64 n.size), .c n.data.val, .c n.bias.val] 38)]) (fun ⟨_, _, us, _⟩ => (baseA w).and (eachA w.heap.size us))
    (fun ⟨o, m, us, bs⟩ => (0 ≤ o ∧ o ≤ k0) ∧ SofarC n t.xs cnt us bs m ∧ (m : Int) = o * H * W) (fun s => (k0 - s.1).toNat) (0, 0, [], []) [(1, none), (2, none)] (by decide) (fun s => ⟨rfl, rfl⟩) ⟨⟨Int.le_refl _, by omega⟩, ⟨⟨rfl, fun u hu => by simp at hu⟩, rfl⟩, by simp⟩ ⟨rfl, ⟨rfl, rfl, ?_, rfl, rfl, rfl, rfl, trivial⟩, ⟨rfl, rfl, (by repeat (first | exact List.mem_cons_self | apply List.mem_cons_of_mem)), trivial⟩, fun R w' h => ⟨h, eachA_nil _ R w'⟩⟩ ?_
  · rw [hsz]; rfl
  rintro ⟨o, m, us, bs⟩ ⟨⟨ho0, ho1⟩, hso, hmo⟩
  by_cases hok : o < k0
  · (repeat' ((conv => whnf) <;> first | (show idxK _ _ _ _ _; (first | refine idx_of _ 1 hut rfl (by omega) ?_ | refine idx_of _ 2 hut rfl (by omega) ?_ | refine idx_of _ 0 hus rfl (by omega) ?_ | refine idx_of _ 1 hus rfl (by omega) ?_ | refine idx_of _ 2 hus rfl (by omega) ?_ | refine idx_of _ 3 hus rfl (by omega) ?_)) | (show roK _ _ _; (first | refine ro_intv (fun R w' h => hur R w' h.1) (j := 1) (by omega) g1 ?_ | refine ro_intv (fun R w' h => hur R w' h.1) (j := 2) (by omega) g2 ?_ | refine ro_intv (fun R w' h => hsr R w' h.1) (j := 0) (by omega) s0 ?_ | refine ro_intv (fun R w' h => hsr R w' h.1) (j := 1) (by omega) s1 ?_ | refine ro_intv (fun R w' h => hsr R w' h.1) (j := 2) (by omega) s2 ?_ | refine ro_intv (fun R w' h => hsr R w' h.1) (j := 3) (by omega) s3 ?_)) | (show drawK _ 28 _ _ _ _ _ _; refine draw_tree tabOk mixed [25] _ dtJH0 (by kernel_rfl) (by kernel_rfl) (by kernel_rfl) (List.Sublist.refl _) ?_) | (show drawK _ 30 _ _ _ _ _ _; refine draw_tree tabOk mixed [] _ dtJH1 (by kernel_rfl) (by kernel_rfl) (by kernel_rfl) (List.Sublist.refl _) ?_) | (show drawK _ 52 _ _ _ _ _ _; refine draw_tree tabOk mixed [42] _ dtJH2 (by kernel_rfl) (by kernel_rfl) (by kernel_rfl) (List.Sublist.refl _) ?_) | (show drawK _ _ _ _ _ _ _ _; refine draw_quiet tabOk mixed (by kernel_rfl) ?_) | (show Wp _ _ _ _ _ _ _; refine Wp.go tabOk rfl ?_) | (show @cmpK _ _ _; (first | refine cmpY ?_ | refine cmpN ?_ | (refine cmp_both ?_ ?_ <;> intro _))) | (show wrapK _ _ _; refine wrapA ?_) | (show leK _ _ _; refine leA ?_) | (show roomK _ _ _; refine roomA ?_) | (show ltK _ _ _; refine ltA ?_) | (show _ ∧ _; refine ⟨?_, ?_⟩) | (show keepK _ _ _ _ _; refine keepA ?_) | refine own_keep ?_ | refine ap_old ?_))
    refine Wp.loop (σ := Int × Nat × List IntsV × List Int) 5 (fun ⟨y, m, us, bs⟩ => [(1, .c t.val), (2, .lp 0 0 0 0), (6, .c (.int .i64 size)), (18, .c n.shape.val), (7, .os 3 m), (17, .os 4 m), (19, .c (.int .i64 o)), (20, .c (.int .i64 y))]) (fun ⟨_, _, us, bs⟩ => [(3, .rows (shRows us) 1 33), (4, .rows (ints bs) 1 3), (0, .box [.c (.int .i64 n.kind), .c (.int .i64 n.a), .c (.int .i64 n.b), .c n.shape.val, .c (.int .i64 n.lo), .c (.int .i64 n.hi), .c (.int .i64 n.size), .c n.data.val, .c n.bias.val] 38)]) (fun ⟨_, _, us, _⟩ => (baseA w).and (eachA w.heap.size us))
      (fun ⟨y, m, us, bs⟩ => (0 ≤ y ∧ y ≤ H) ∧ SofarC n t.xs cnt us bs m ∧ (m : Int) = (o * H + y) * W) (fun s => (H - s.1).toNat) (0, m, us, bs) [(3, some 1), (4, some 2)] (by decide) (fun s => ⟨rfl, rfl⟩) ⟨⟨Int.le_refl _, hH0⟩, hso, by rw [hmo, Int.add_zero]⟩ ⟨rfl, ⟨rfl, rfl, rfl, rfl, rfl, rfl, rfl, rfl, trivial⟩, ⟨(by repeat (first | exact List.mem_cons_self | apply List.mem_cons_of_mem)), (by repeat (first | exact List.mem_cons_self | apply List.mem_cons_of_mem)), (by repeat (first | exact List.mem_cons_self | apply List.mem_cons_of_mem)), trivial⟩, fun _ _ h => h⟩ ?_
    clear hmo hso
    have co : B64 o := ⟨ho0, Int.le_trans ho1 b0.2⟩
    rintro ⟨y, m, us, bs⟩ ⟨⟨hy0, hy1⟩, hso, hmy⟩
    by_cases hyi : y < H
    · (repeat' ((conv => whnf) <;> first | (show idxK _ _ _ _ _; (first | refine idx_of _ 1 hut rfl (by omega) ?_ | refine idx_of _ 2 hut rfl (by omega) ?_ | refine idx_of _ 0 hus rfl (by omega) ?_ | refine idx_of _ 1 hus rfl (by omega) ?_ | refine idx_of _ 2 hus rfl (by omega) ?_ | refine idx_of _ 3 hus rfl (by omega) ?_)) | (show roK _ _ _; (first | refine ro_intv (fun R w' h => hur R w' h.1) (j := 1) (by omega) g1 ?_ | refine ro_intv (fun R w' h => hur R w' h.1) (j := 2) (by omega) g2 ?_ | refine ro_intv (fun R w' h => hsr R w' h.1) (j := 0) (by omega) s0 ?_ | refine ro_intv (fun R w' h => hsr R w' h.1) (j := 1) (by omega) s1 ?_ | refine ro_intv (fun R w' h => hsr R w' h.1) (j := 2) (by omega) s2 ?_ | refine ro_intv (fun R w' h => hsr R w' h.1) (j := 3) (by omega) s3 ?_)) | (show drawK _ 28 _ _ _ _ _ _; refine draw_tree tabOk mixed [25] _ dtJH0 (by kernel_rfl) (by kernel_rfl) (by kernel_rfl) (List.Sublist.refl _) ?_) | (show drawK _ 30 _ _ _ _ _ _; refine draw_tree tabOk mixed [] _ dtJH1 (by kernel_rfl) (by kernel_rfl) (by kernel_rfl) (List.Sublist.refl _) ?_) | (show drawK _ 52 _ _ _ _ _ _; refine draw_tree tabOk mixed [42] _ dtJH2 (by kernel_rfl) (by kernel_rfl) (by kernel_rfl) (List.Sublist.refl _) ?_) | (show drawK _ _ _ _ _ _ _ _; refine draw_quiet tabOk mixed (by kernel_rfl) ?_) | (show Wp _ _ _ _ _ _ _; refine Wp.go tabOk rfl ?_) | (show @cmpK _ _ _; (first | refine cmpY ?_ | refine cmpN ?_ | (refine cmp_both ?_ ?_ <;> intro _))) | (show wrapK _ _ _; refine wrapA ?_) | (show leK _ _ _; refine leA ?_) | (show roomK _ _ _; refine roomA ?_) | (show ltK _ _ _; refine ltA ?_) | (show _ ∧ _; refine ⟨?_, ?_⟩) | (show keepK _ _ _ _ _; refine keepA ?_) | refine own_keep ?_ | refine ap_old ?_))
      refine Wp.loop (σ := Int × Nat × List IntsV × List Int) 7 (fun ⟨x, m, us, bs⟩ => [(1, .c t.val), (2, .lp 0 0 0 0), (6, .c (.int .i64 size)), (18, .c n.shape.val), (7, .os 5 m), (17, .os 6 m), (19, .c (.int .i64 o)), (20, .c (.int .i64 y)), (21, .c (.int .i64 x))]) (fun ⟨_, _, us, bs⟩ => [(5, .rows (shRows us) 1 33), (6, .rows (ints bs) 1 3), (0, .box [.c (.int .i64 n.kind), .c (.int .i64 n.a), .c (.int .i64 n.b), .c n.shape.val, .c (.int .i64 n.lo), .c (.int .i64 n.hi), .c (.int .i64 n.size), .c n.data.val, .c n.bias.val] 38)]) (fun ⟨_, _, us, _⟩ => (baseA w).and (eachA w.heap.size us))
        (fun ⟨x, m, us, bs⟩ => (0 ≤ x ∧ x ≤ W) ∧ SofarC n t.xs cnt us bs m ∧ (m : Int) = (o * H + y) * W + x) (fun s => (W - s.1).toNat) (0, m, us, bs) [(5, some 3), (6, some 4)] (by decide) (fun s => ⟨rfl, rfl⟩) ⟨⟨Int.le_refl _, hW0⟩, hso, by rw [hmy, Int.add_zero]⟩ ⟨rfl, ⟨rfl, rfl, rfl, rfl, rfl, rfl, rfl, rfl, rfl, trivial⟩, ⟨(by repeat (first | exact List.mem_cons_self | apply List.mem_cons_of_mem)), (by repeat (first | exact List.mem_cons_self | apply List.mem_cons_of_mem)), (by repeat (first | exact List.mem_cons_self | apply List.mem_cons_of_mem)), trivial⟩, fun _ _ h => h⟩ ?_
      clear hmy hso
      have cy : B64 y := ⟨hy0, by omega⟩
      rintro ⟨x, m, us, bs⟩ ⟨⟨hx0, hx1⟩, hso, hmx⟩
      by_cases hxi : x < W
      · (repeat' ((conv => whnf) <;> first | (show idxK _ _ _ _ _; (first | refine idx_of _ 1 hut rfl (by omega) ?_ | refine idx_of _ 2 hut rfl (by omega) ?_ | refine idx_of _ 0 hus rfl (by omega) ?_ | refine idx_of _ 1 hus rfl (by omega) ?_ | refine idx_of _ 2 hus rfl (by omega) ?_ | refine idx_of _ 3 hus rfl (by omega) ?_)) | (show roK _ _ _; (first | refine ro_intv (fun R w' h => hur R w' h.1) (j := 1) (by omega) g1 ?_ | refine ro_intv (fun R w' h => hur R w' h.1) (j := 2) (by omega) g2 ?_ | refine ro_intv (fun R w' h => hsr R w' h.1) (j := 0) (by omega) s0 ?_ | refine ro_intv (fun R w' h => hsr R w' h.1) (j := 1) (by omega) s1 ?_ | refine ro_intv (fun R w' h => hsr R w' h.1) (j := 2) (by omega) s2 ?_ | refine ro_intv (fun R w' h => hsr R w' h.1) (j := 3) (by omega) s3 ?_)) | (show makeK _ _ _ _; (refine make_of size rfl rfl (by show 8 * _ ≤ _; omega) (by omega) ?_)) | (show drawK _ 28 _ _ _ _ _ _; refine draw_tree tabOk mixed [25] _ dtJH0 (by kernel_rfl) (by kernel_rfl) (by kernel_rfl) (List.Sublist.refl _) ?_) | (show drawK _ 30 _ _ _ _ _ _; refine draw_tree tabOk mixed [] _ dtJH1 (by kernel_rfl) (by kernel_rfl) (by kernel_rfl) (List.Sublist.refl _) ?_) | (show drawK _ 52 _ _ _ _ _ _; refine draw_tree tabOk mixed [42] _ dtJH2 (by kernel_rfl) (by kernel_rfl) (by kernel_rfl) (List.Sublist.refl _) ?_) | (show drawK _ _ _ _ _ _ _ _; refine draw_quiet tabOk mixed (by kernel_rfl) ?_) | (show Wp _ _ _ _ _ _ _; refine Wp.go tabOk rfl ?_) | (show @cmpK _ _ _; (first | refine cmpY ?_ | refine cmpN ?_ | (refine cmp_both ?_ ?_ <;> intro _))) | (show wrapK _ _ _; refine wrapA ?_) | (show leK _ _ _; refine leA ?_) | (show roomK _ _ _; refine roomA ?_) | (show ltK _ _ _; refine ltA ?_) | (show _ ∧ _; refine ⟨?_, ?_⟩) | (show keepK _ _ _ _ _; refine keepA ?_) | refine own_keep ?_ | refine ap_old ?_))
        have hmlt : m < cnt := Int.ofNat_lt.1 (pos_lt hmx hcnt ⟨hx0, hxi⟩ ⟨hy0, hyi⟩ hok)
        have hatm := hat m hmlt
        have hTe : ∃ T, T = convT n.data.xs k1 k2 k3 i1 i2 m := ⟨_, rfl⟩
        obtain ⟨T, hT⟩ := hTe
        have hTz := hTl m
        have hTat : ∀ (p q : Nat) (c i j : Int) (hp : p < T.length), (p : Int) = (c * k2 + i) * k3 + j → 0 ≤ i ∧ i < k2 → 0 ≤ j ∧ j < k3 → ((o * k1 + c) * k2 + i) * k3 + j = q → T[p] = (n.data.xs.getD q 0, (c * i1 + y + i) * i2 + x + j) := fun p q c i j hp he h0 h1 hq => convT_at hT hWd hHd hmx ⟨hx0, hxi⟩ ⟨hy0, hyi⟩ hp he h0 h1 hq
        have hTb := convT_bd hdb hT
        have hbi : biasI n cnt m = n.bias.xs.getD o.toNat 0 := by
          unfold biasI
          rw [if_neg (by omega), if_pos hk, bias_idx hcnt hbl (by omega) hmx ⟨hx0, hxi⟩ ⟨hy0, hyi⟩ ho0]
        have cx : B64 x := ⟨hx0, by omega⟩
        rw [← hT] at hatm hTz
        clear hTl hat
        refine Wp.loop (σ := Int × Nat) 8 (fun ⟨c, _⟩ => [(1, .c t.val), (2, .lp 0 0 0 0), (6, .c (.int .i64 size)), (18, .c n.shape.val), (7, .os 5 m), (17, .os 6 m), (19, .c (.int .i64 o)), (20, .c (.int .i64 y)), (21, .c (.int .i64 x)), (22, .os 7 size), (23, .c (.int .i64 c))]) (fun ⟨_, p⟩ => [(7, .rows (ints (rowP T size p)) 1 3), (5, .rows (shRows us) 1 33), (6, .rows (ints bs) 1 3), (0, .box [.c (.int .i64 n.kind), .c (.int .i64 n.a), .c (.int .i64 n.b), .c n.shape.val, .c (.int .i64 n.lo), .c (.int .i64 n.hi), .c (.int .i64 n.size), .c n.data.val, .c n.bias.val] 38)]) (fun _ => (baseA w).and (eachA w.heap.size us))
          (fun ⟨c, p⟩ => (0 ≤ c ∧ c ≤ k1) ∧ (p : Int) = c * k2 * k3) (fun s => (k1 - s.1).toNat) (0, 0) [] (by decide) (fun s => ⟨rfl, rfl⟩) ⟨⟨Int.le_refl _, c1.1⟩, by simp⟩ ⟨rfl, ⟨rfl, rfl, rfl, rfl, rfl, rfl, rfl, rfl, rfl, rfl, rfl, trivial⟩, ⟨?_, (by repeat (first | exact List.mem_cons_self | apply List.mem_cons_of_mem)), (by repeat (first | exact List.mem_cons_self | apply List.mem_cons_of_mem)), (by repeat (first | exact List.mem_cons_self | apply List.mem_cons_of_mem)), trivial⟩, fun _ _ h => h⟩ ?_
        · have : ints (rowP T size 0) = List.replicate size [Value.int .i64 0] := by simp [ints, rowP]
          show (7, Ent.rows (ints (rowP T size 0)) 1 3) ∈ _
          rw [this]
          exact (by repeat (first | exact List.mem_cons_self | apply List.mem_cons_of_mem))
        rintro ⟨c, p⟩ ⟨⟨hc0, hc1⟩, hpc⟩
        by_cases hck : c < k1
        · clear hcnt hmx hmlt hso hT hTb hbi hbb hdb hsz hHd hWd
          have cc : B64 c := ⟨hc0, Int.le_trans hc1 b1.2⟩
          (repeat' ((conv => whnf) <;> first | (show idxK _ _ _ _ _; (first | refine idx_of _ 1 hut rfl (by omega) ?_ | refine idx_of _ 2 hut rfl (by omega) ?_ | refine idx_of _ 0 hus rfl (by omega) ?_ | refine idx_of _ 1 hus rfl (by omega) ?_ | refine idx_of _ 2 hus rfl (by omega) ?_ | refine idx_of _ 3 hus rfl (by omega) ?_)) | (show roK _ _ _; (first | refine ro_intv (fun R w' h => hur R w' h.1) (j := 1) (by omega) g1 ?_ | refine ro_intv (fun R w' h => hur R w' h.1) (j := 2) (by omega) g2 ?_ | refine ro_intv (fun R w' h => hsr R w' h.1) (j := 0) (by omega) s0 ?_ | refine ro_intv (fun R w' h => hsr R w' h.1) (j := 1) (by omega) s1 ?_ | refine ro_intv (fun R w' h => hsr R w' h.1) (j := 2) (by omega) s2 ?_ | refine ro_intv (fun R w' h => hsr R w' h.1) (j := 3) (by omega) s3 ?_)) | (show drawK _ 28 _ _ _ _ _ _; refine draw_tree tabOk mixed [25] _ dtJH0 (by kernel_rfl) (by kernel_rfl) (by kernel_rfl) (List.Sublist.refl _) ?_) | (show drawK _ 30 _ _ _ _ _ _; refine draw_tree tabOk mixed [] _ dtJH1 (by kernel_rfl) (by kernel_rfl) (by kernel_rfl) (List.Sublist.refl _) ?_) | (show drawK _ 52 _ _ _ _ _ _; refine draw_tree tabOk mixed [42] _ dtJH2 (by kernel_rfl) (by kernel_rfl) (by kernel_rfl) (List.Sublist.refl _) ?_) | (show drawK _ _ _ _ _ _ _ _; refine draw_quiet tabOk mixed (by kernel_rfl) ?_) | (show Wp _ _ _ _ _ _ _; refine Wp.go tabOk rfl ?_) | (show @cmpK _ _ _; (first | refine cmpY ?_ | refine cmpN ?_ | (refine cmp_both ?_ ?_ <;> intro _))) | (show wrapK _ _ _; refine wrapA ?_) | (show leK _ _ _; refine leA ?_) | (show roomK _ _ _; refine roomA ?_) | (show ltK _ _ _; refine ltA ?_) | (show _ ∧ _; refine ⟨?_, ?_⟩) | (show keepK _ _ _ _ _; refine keepA ?_) | refine own_keep ?_ | refine ap_old ?_))
          refine Wp.loop (σ := Int × Nat) 8 (fun ⟨i, _⟩ => [(1, .c t.val), (2, .lp 0 0 0 0), (6, .c (.int .i64 size)), (18, .c n.shape.val), (7, .os 5 m), (17, .os 6 m), (19, .c (.int .i64 o)), (20, .c (.int .i64 y)), (21, .c (.int .i64 x)), (22, .os 7 size), (23, .c (.int .i64 c)), (24, .c (.int .i64 i))]) (fun ⟨_, p⟩ => [(7, .rows (ints (rowP T size p)) 1 3), (5, .rows (shRows us) 1 33), (6, .rows (ints bs) 1 3), (0, .box [.c (.int .i64 n.kind), .c (.int .i64 n.a), .c (.int .i64 n.b), .c n.shape.val, .c (.int .i64 n.lo), .c (.int .i64 n.hi), .c (.int .i64 n.size), .c n.data.val, .c n.bias.val] 38)]) (fun _ => (baseA w).and (eachA w.heap.size us))
            (fun ⟨i, p⟩ => (0 ≤ i ∧ i ≤ k2) ∧ (p : Int) = (c * k2 + i) * k3) (fun s => (k2 - s.1).toNat) (0, p) [] (by decide) (fun s => ⟨rfl, rfl⟩) ⟨⟨Int.le_refl _, c2.1⟩, by rw [hpc, Int.add_zero]⟩ ⟨rfl, ⟨rfl, rfl, rfl, rfl, rfl, rfl, rfl, rfl, rfl, rfl, rfl, rfl, trivial⟩, ⟨(by repeat (first | exact List.mem_cons_self | apply List.mem_cons_of_mem)), (by repeat (first | exact List.mem_cons_self | apply List.mem_cons_of_mem)), (by repeat (first | exact List.mem_cons_self | apply List.mem_cons_of_mem)), (by repeat (first | exact List.mem_cons_self | apply List.mem_cons_of_mem)), trivial⟩, fun _ _ h => h⟩ ?_
          clear hpc
          rintro ⟨i, p⟩ ⟨⟨hi0, hi1⟩, hpi⟩
          by_cases hii : i < k2
          · have ci : B64 i := ⟨hi0, Int.le_trans hi1 c2.2⟩
            (repeat' ((conv => whnf) <;> first | (show idxK _ _ _ _ _; (first | refine idx_of _ 1 hut rfl (by omega) ?_ | refine idx_of _ 2 hut rfl (by omega) ?_ | refine idx_of _ 0 hus rfl (by omega) ?_ | refine idx_of _ 1 hus rfl (by omega) ?_ | refine idx_of _ 2 hus rfl (by omega) ?_ | refine idx_of _ 3 hus rfl (by omega) ?_)) | (show roK _ _ _; (first | refine ro_intv (fun R w' h => hur R w' h.1) (j := 1) (by omega) g1 ?_ | refine ro_intv (fun R w' h => hur R w' h.1) (j := 2) (by omega) g2 ?_ | refine ro_intv (fun R w' h => hsr R w' h.1) (j := 0) (by omega) s0 ?_ | refine ro_intv (fun R w' h => hsr R w' h.1) (j := 1) (by omega) s1 ?_ | refine ro_intv (fun R w' h => hsr R w' h.1) (j := 2) (by omega) s2 ?_ | refine ro_intv (fun R w' h => hsr R w' h.1) (j := 3) (by omega) s3 ?_)) | (show drawK _ 28 _ _ _ _ _ _; refine draw_tree tabOk mixed [25] _ dtJH0 (by kernel_rfl) (by kernel_rfl) (by kernel_rfl) (List.Sublist.refl _) ?_) | (show drawK _ 30 _ _ _ _ _ _; refine draw_tree tabOk mixed [] _ dtJH1 (by kernel_rfl) (by kernel_rfl) (by kernel_rfl) (List.Sublist.refl _) ?_) | (show drawK _ 52 _ _ _ _ _ _; refine draw_tree tabOk mixed [42] _ dtJH2 (by kernel_rfl) (by kernel_rfl) (by kernel_rfl) (List.Sublist.refl _) ?_) | (show drawK _ _ _ _ _ _ _ _; refine draw_quiet tabOk mixed (by kernel_rfl) ?_) | (show Wp _ _ _ _ _ _ _; refine Wp.go tabOk rfl ?_) | (show @cmpK _ _ _; (first | refine cmpY ?_ | refine cmpN ?_ | (refine cmp_both ?_ ?_ <;> intro _))) | (show wrapK _ _ _; refine wrapA ?_) | (show leK _ _ _; refine leA ?_) | (show roomK _ _ _; refine roomA ?_) | (show ltK _ _ _; refine ltA ?_) | (show _ ∧ _; refine ⟨?_, ?_⟩) | (show keepK _ _ _ _ _; refine keepA ?_) | refine own_keep ?_ | refine ap_old ?_))
            refine Wp.loop (σ := Int × Nat) 8 (fun ⟨j, _⟩ => [(1, .c t.val), (2, .lp 0 0 0 0), (6, .c (.int .i64 size)), (18, .c n.shape.val), (7, .os 5 m), (17, .os 6 m), (19, .c (.int .i64 o)), (20, .c (.int .i64 y)), (21, .c (.int .i64 x)), (22, .os 7 size), (23, .c (.int .i64 c)), (24, .c (.int .i64 i)), (25, .c (.int .i64 j))]) (fun ⟨_, p⟩ => [(7, .rows (ints (rowP T size p)) 1 3), (5, .rows (shRows us) 1 33), (6, .rows (ints bs) 1 3), (0, .box [.c (.int .i64 n.kind), .c (.int .i64 n.a), .c (.int .i64 n.b), .c n.shape.val, .c (.int .i64 n.lo), .c (.int .i64 n.hi), .c (.int .i64 n.size), .c n.data.val, .c n.bias.val] 38)]) (fun _ => (baseA w).and (eachA w.heap.size us))
              (fun ⟨j, p⟩ => (0 ≤ j ∧ j ≤ k3) ∧ (p : Int) = (c * k2 + i) * k3 + j) (fun s => (k3 - s.1).toNat) (0, p) [] (by decide) (fun s => ⟨rfl, rfl⟩) ⟨⟨Int.le_refl _, c3.1⟩, by rw [hpi, Int.add_zero]⟩ ⟨rfl, ⟨rfl, rfl, rfl, rfl, rfl, rfl, rfl, rfl, rfl, rfl, rfl, rfl, rfl, trivial⟩, ⟨(by repeat (first | exact List.mem_cons_self | apply List.mem_cons_of_mem)), (by repeat (first | exact List.mem_cons_self | apply List.mem_cons_of_mem)), (by repeat (first | exact List.mem_cons_self | apply List.mem_cons_of_mem)), (by repeat (first | exact List.mem_cons_self | apply List.mem_cons_of_mem)), trivial⟩, fun _ _ h => h⟩ ?_
            clear hpi
            rintro ⟨j, p⟩ ⟨⟨hj0, hj1⟩, hpj⟩
            by_cases hjk : j < k3
            · have hpT : p < T.length := Int.ofNat_lt.1 (pos_lt hpj hTz ⟨hj0, hjk⟩ ⟨hi0, hii⟩ hck)
              have E := ix_c (x := x) (j := j) cc ci1 cy ci ci2 co c1 c2 c3
              obtain ⟨e1, e2, e3, e4, e5⟩ := E
              have hqe : ∃ q : Nat, ((o * k1 + c) * k2 + i) * k3 + j = q := ⟨_, (Int.toNat_of_nonneg (by omega)).symm⟩
              obtain ⟨q, hq⟩ := hqe
              have hql : q < n.data.xs.length := Int.ofNat_lt.1 (pos_lt hq.symm hdl ⟨hj0, hjk⟩ ⟨hi0, hii⟩ (lin_lt ⟨ho0, hok⟩ ⟨hc0, hck⟩))
              have hTp := hTat p q c i j hpT hpj ⟨hi0, hii⟩ ⟨hj0, hjk⟩ hq
              have hb := hatm _ (List.getElem_mem hpT)
              have hsu := rowP_succ (size := size) hpT
              rw [hTp] at hb hsu
              have hb2 : 0 ≤ (c * i1 + y + i) * i2 + x + j ∧ (c * i1 + y + i) * i2 + x + j < size := hb
              have hex : ∃ r : Nat, (c * i1 + y + i) * i2 + x + j = r := ⟨_, (Int.toNat_of_nonneg hb2.1).symm⟩
              obtain ⟨r, hr⟩ := hex
              rw [hr] at hsu hb2
              have hrl : r < size := Int.ofNat_lt.1 hb2.2
              clear hTat hatm hTp hTz hb hb2 hdl
              (repeat' ((conv => whnf) <;> first | (show idxK _ _ _ _ _; (first | refine idx_of _ 1 hut rfl (by omega) ?_ | refine idx_of _ 2 hut rfl (by omega) ?_ | refine idx_of _ 1 hus rfl (by omega) ?_ | refine idx_of _ 2 hus rfl (by omega) ?_ | refine idx_of _ 3 hus rfl (by omega) ?_ | refine idx_of _ q hud hq hql ?_)) | (show roK _ _ _; (first | refine ro_intv (fun R w' h => hur R w' h.1) (j := 1) (by omega) g1 ?_ | refine ro_intv (fun R w' h => hur R w' h.1) (j := 2) (by omega) g2 ?_ | refine ro_intv (fun R w' h => hsr R w' h.1) (j := 1) (by omega) s1 ?_ | refine ro_intv (fun R w' h => hsr R w' h.1) (j := 2) (by omega) s2 ?_ | refine ro_intv (fun R w' h => hsr R w' h.1) (j := 3) (by omega) s3 ?_ | refine ro_intv (fun R w' h => hdr R w' h.1) (j := q) hql rfl ?_)) | (show idxRowK _ _ _ _ _ _; (refine idxRow_of r hr hrl (by rw [ints_length, rowP_length]; exact Nat.le_refl _) ?_)) | (show rowStoreK _ _ _ _ _; (refine ints_store (by rw [rowP_length]; exact hrl) ?_)) | (show drawK _ 28 _ _ _ _ _ _; refine draw_tree tabOk mixed [25] _ dtJH0 (by kernel_rfl) (by kernel_rfl) (by kernel_rfl) (List.Sublist.refl _) ?_) | (show drawK _ 30 _ _ _ _ _ _; refine draw_tree tabOk mixed [] _ dtJH1 (by kernel_rfl) (by kernel_rfl) (by kernel_rfl) (List.Sublist.refl _) ?_) | (show drawK _ 52 _ _ _ _ _ _; refine draw_tree tabOk mixed [42] _ dtJH2 (by kernel_rfl) (by kernel_rfl) (by kernel_rfl) (List.Sublist.refl _) ?_) | (show drawK _ _ _ _ _ _ _ _; refine draw_quiet tabOk mixed (by kernel_rfl) ?_) | (show Wp _ _ _ _ _ _ _; refine Wp.go tabOk rfl ?_) | (show @cmpK _ _ _; (first | refine cmpY ?_ | refine cmpN ?_ | (refine cmp_both ?_ ?_ <;> intro _))) | (show wrapK _ _ _; refine wrapA ?_) | (show leK _ _ _; refine leA ?_) | (show roomK _ _ _; refine roomA ?_) | (show ltK _ _ _; refine ltA ?_) | (show _ ∧ _; refine ⟨?_, ?_⟩) | (show keepK _ _ _ _ _; refine keepA ?_) | refine own_keep ?_ | refine ap_old ?_))
              all_goals (conv => whnf)
              exact ⟨(j + 1, p + 1), [], ⟨⟨Int.le_add_one hj0, hjk⟩, by rw [Int.natCast_add, hpj, Int.add_assoc]; rfl⟩, by simp only; omega, rfl, ⟨rfl, rfl, rfl, rfl, rfl, rfl, rfl, rfl, rfl, rfl, rfl, rfl, rfl, trivial⟩, ⟨by
                show (7, Ent.rows (ints (rowP T size (p + 1))) 1 3) ∈ _
                rw [hsu]; exact (by repeat (first | exact List.mem_cons_self | apply List.mem_cons_of_mem)), (by repeat (first | exact List.mem_cons_self | apply List.mem_cons_of_mem)), (by repeat (first | exact List.mem_cons_self | apply List.mem_cons_of_mem)), (by repeat (first | exact List.mem_cons_self | apply List.mem_cons_of_mem)), trivial⟩, fun _ _ h => h⟩
            · have hjz : j = k3 := Int.le_antisymm hj1 (Int.not_lt.1 hjk)
              (repeat' ((conv => whnf) <;> first | (show idxK _ _ _ _ _; (first | refine idx_of _ 1 hut rfl (by omega) ?_ | refine idx_of _ 2 hut rfl (by omega) ?_ | refine idx_of _ 0 hus rfl (by omega) ?_ | refine idx_of _ 1 hus rfl (by omega) ?_ | refine idx_of _ 2 hus rfl (by omega) ?_ | refine idx_of _ 3 hus rfl (by omega) ?_)) | (show roK _ _ _; (first | refine ro_intv (fun R w' h => hur R w' h.1) (j := 1) (by omega) g1 ?_ | refine ro_intv (fun R w' h => hur R w' h.1) (j := 2) (by omega) g2 ?_ | refine ro_intv (fun R w' h => hsr R w' h.1) (j := 0) (by omega) s0 ?_ | refine ro_intv (fun R w' h => hsr R w' h.1) (j := 1) (by omega) s1 ?_ | refine ro_intv (fun R w' h => hsr R w' h.1) (j := 2) (by omega) s2 ?_ | refine ro_intv (fun R w' h => hsr R w' h.1) (j := 3) (by omega) s3 ?_)) | (show drawK _ 28 _ _ _ _ _ _; refine draw_tree tabOk mixed [25] _ dtJH0 (by kernel_rfl) (by kernel_rfl) (by kernel_rfl) (List.Sublist.refl _) ?_) | (show drawK _ 30 _ _ _ _ _ _; refine draw_tree tabOk mixed [] _ dtJH1 (by kernel_rfl) (by kernel_rfl) (by kernel_rfl) (List.Sublist.refl _) ?_) | (show drawK _ 52 _ _ _ _ _ _; refine draw_tree tabOk mixed [42] _ dtJH2 (by kernel_rfl) (by kernel_rfl) (by kernel_rfl) (List.Sublist.refl _) ?_) | (show drawK _ _ _ _ _ _ _ _; refine draw_quiet tabOk mixed (by kernel_rfl) ?_) | (show Wp _ _ _ _ _ _ _; refine Wp.go tabOk rfl ?_) | (show @cmpK _ _ _; (first | refine cmpY ?_ | refine cmpN ?_ | (refine cmp_both ?_ ?_ <;> intro _))) | (show wrapK _ _ _; refine wrapA ?_) | (show leK _ _ _; refine leA ?_) | (show roomK _ _ _; refine roomA ?_) | (show ltK _ _ _; refine ltA ?_) | (show _ ∧ _; refine ⟨?_, ?_⟩) | (show keepK _ _ _ _ _; refine keepA ?_) | refine own_keep ?_ | refine ap_old ?_))
              all_goals (conv => whnf)
              exact ⟨(i + 1, p), [], ⟨⟨Int.le_add_one hi0, hii⟩, by rw [hpj, hjz, ← Int.add_assoc, Int.add_mul _ 1, Int.one_mul]⟩, by simp only; omega, rfl, ⟨rfl, rfl, rfl, rfl, rfl, rfl, rfl, rfl, rfl, rfl, rfl, rfl, trivial⟩, ⟨(by repeat (first | exact List.mem_cons_self | apply List.mem_cons_of_mem)), (by repeat (first | exact List.mem_cons_self | apply List.mem_cons_of_mem)), (by repeat (first | exact List.mem_cons_self | apply List.mem_cons_of_mem)), (by repeat (first | exact List.mem_cons_self | apply List.mem_cons_of_mem)), trivial⟩, fun _ _ h => h⟩
          · have hiz : i = k2 := Int.le_antisymm hi1 (Int.not_lt.1 hii)
            (repeat' ((conv => whnf) <;> first | (show idxK _ _ _ _ _; (first | refine idx_of _ 1 hut rfl (by omega) ?_ | refine idx_of _ 2 hut rfl (by omega) ?_ | refine idx_of _ 0 hus rfl (by omega) ?_ | refine idx_of _ 1 hus rfl (by omega) ?_ | refine idx_of _ 2 hus rfl (by omega) ?_ | refine idx_of _ 3 hus rfl (by omega) ?_)) | (show roK _ _ _; (first | refine ro_intv (fun R w' h => hur R w' h.1) (j := 1) (by omega) g1 ?_ | refine ro_intv (fun R w' h => hur R w' h.1) (j := 2) (by omega) g2 ?_ | refine ro_intv (fun R w' h => hsr R w' h.1) (j := 0) (by omega) s0 ?_ | refine ro_intv (fun R w' h => hsr R w' h.1) (j := 1) (by omega) s1 ?_ | refine ro_intv (fun R w' h => hsr R w' h.1) (j := 2) (by omega) s2 ?_ | refine ro_intv (fun R w' h => hsr R w' h.1) (j := 3) (by omega) s3 ?_)) | (show drawK _ 28 _ _ _ _ _ _; refine draw_tree tabOk mixed [25] _ dtJH0 (by kernel_rfl) (by kernel_rfl) (by kernel_rfl) (List.Sublist.refl _) ?_) | (show drawK _ 30 _ _ _ _ _ _; refine draw_tree tabOk mixed [] _ dtJH1 (by kernel_rfl) (by kernel_rfl) (by kernel_rfl) (List.Sublist.refl _) ?_) | (show drawK _ 52 _ _ _ _ _ _; refine draw_tree tabOk mixed [42] _ dtJH2 (by kernel_rfl) (by kernel_rfl) (by kernel_rfl) (List.Sublist.refl _) ?_) | (show drawK _ _ _ _ _ _ _ _; refine draw_quiet tabOk mixed (by kernel_rfl) ?_) | (show Wp _ _ _ _ _ _ _; refine Wp.go tabOk rfl ?_) | (show @cmpK _ _ _; (first | refine cmpY ?_ | refine cmpN ?_ | (refine cmp_both ?_ ?_ <;> intro _))) | (show wrapK _ _ _; refine wrapA ?_) | (show leK _ _ _; refine leA ?_) | (show roomK _ _ _; refine roomA ?_) | (show ltK _ _ _; refine ltA ?_) | (show _ ∧ _; refine ⟨?_, ?_⟩) | (show keepK _ _ _ _ _; refine keepA ?_) | refine own_keep ?_ | refine ap_old ?_))
            all_goals (conv => whnf)
            exact ⟨(c + 1, p), [], ⟨⟨Int.le_add_one hc0, hck⟩, by rw [hpi, hiz, Int.add_mul c 1, Int.one_mul]⟩, by simp only; omega, rfl, ⟨rfl, rfl, rfl, rfl, rfl, rfl, rfl, rfl, rfl, rfl, rfl, trivial⟩, ⟨(by repeat (first | exact List.mem_cons_self | apply List.mem_cons_of_mem)), (by repeat (first | exact List.mem_cons_self | apply List.mem_cons_of_mem)), (by repeat (first | exact List.mem_cons_self | apply List.mem_cons_of_mem)), (by repeat (first | exact List.mem_cons_self | apply List.mem_cons_of_mem)), trivial⟩, fun _ _ h => h⟩
        · have hcz : c = k1 := Int.le_antisymm hc1 (Int.not_lt.1 hck)
          rw [hcz] at hpc
          have hpT : p = T.length := Int.ofNat.inj (hpc.trans hTz.symm)
          have hml : us.length = m := hso.rows.len
          have hbl2 : bs.length = m := hso.blen
          have hol : o.toNat < n.bias.xs.length := by omega
          have hoe : o = (o.toNat : Int) := (Int.toNat_of_nonneg ho0).symm
          refine Wp.freezeN 7 w.heap.size (k := 1) (xs := ints (rowP T size p)) (T := 3) (by repeat (first | exact List.mem_cons_self | apply List.mem_cons_of_mem)) (fun R w' h b hb => (h.1 b hb).1) (fun l1 hl1 => ?_)
          rw [ints_length, rowP_length] at hl1
          clear hcnt hTz hTat hatm hdl
          (repeat' ((conv => whnf) <;> first | (show @cmpK _ _ _; refine cmp_no hck ?_) | (show idxK _ _ _ _ _; (first | refine idx_of _ 1 hus rfl (by omega) ?_ | refine idx_of _ o.toNat hub hoe hol ?_)) | (show roK _ _ _; (first | refine ro_intv (fun R w' h => hsr R w' h.1.1) (j := 1) (by omega) s1 ?_ | refine ro_intv (fun R w' h => hbr R w' h.1.1) (j := o.toNat) hol rfl ?_)) | (show leK _ _ _; (first | refine le_of (by rw [shRows_length, hml]; exact Nat.le_refl _) ?_ | refine le_of (by rw [ints_length, hbl2]; exact Nat.le_refl _) ?_)) | (show roomK _ _ _; (first | refine room_of (by show (m + 1) * 24 ≤ 140737488355328; omega) ?_ | refine room_of (by show (m + 1) * 8 ≤ 140737488355328; omega) ?_)) | (show drawK _ 28 _ _ _ _ _ _; refine draw_tree tabOk mixed [25] _ dtJH0 (by kernel_rfl) (by kernel_rfl) (by kernel_rfl) (List.Sublist.refl _) ?_) | (show drawK _ 30 _ _ _ _ _ _; refine draw_tree tabOk mixed [] _ dtJH1 (by kernel_rfl) (by kernel_rfl) (by kernel_rfl) (List.Sublist.refl _) ?_) | (show drawK _ 52 _ _ _ _ _ _; refine draw_tree tabOk mixed [42] _ dtJH2 (by kernel_rfl) (by kernel_rfl) (by kernel_rfl) (List.Sublist.refl _) ?_) | (show drawK _ _ _ _ _ _ _ _; refine draw_quiet tabOk mixed (by kernel_rfl) ?_) | (show Wp _ _ _ _ _ _ _; refine Wp.go tabOk rfl ?_) | (show @cmpK _ _ _; (first | refine cmpY ?_ | refine cmpN ?_ | (refine cmp_both ?_ ?_ <;> intro _))) | (show wrapK _ _ _; refine wrapA ?_) | (show leK _ _ _; refine leA ?_) | (show roomK _ _ _; refine roomA ?_) | (show ltK _ _ _; refine ltA ?_) | (show _ ∧ _; refine ⟨?_, ?_⟩) | (show keepK _ _ _ _ _; refine keepA ?_) | refine own_keep ?_ | refine ap_old ?_))
          all_goals (conv => whnf)
          exact ⟨(x + 1, m + 1, us ++ [IntsV.mk l1.base l1.cap (rowP T size p)], bs ++ [n.bias.xs.getD o.toNat 0]), [(5, some 9), (6, some 11)], ⟨⟨Int.le_add_one hx0, hxi⟩, hso.next ⟨fun v hv => by have := rowP_bd hTb v hv; unfold bd20 at this; exact ⟨by omega, by omega⟩, by rw [rowP_length]; exact hl1, by rw [rowP_length]; omega⟩ (conv_row hk hsz m (hT.trans (by rw [g1, g2, s1, s2, s3])) hpT) hbi, by rw [Int.natCast_add, hmx, Int.add_assoc]; rfl⟩, by simp only; omega, rfl, ⟨rfl, rfl, rfl, rfl, rfl, rfl, rfl, rfl, rfl, trivial⟩, ⟨by repeat (first | exact rows_snocM us l1.base l1.cap (rowP T size p) hml.symm (rowP_length _ _ _).symm | apply List.mem_cons_of_mem), by repeat (first | exact ints_snocM bs _ hbl2.symm | apply List.mem_cons_of_mem), (by repeat (first | exact List.mem_cons_self | apply List.mem_cons_of_mem)), trivial⟩, fun R w' h => ⟨h.1.1, eachA_snoc h.1.2 h.2⟩⟩
      · have hxz : x = W := Int.le_antisymm hx1 (Int.not_lt.1 hxi)
        (repeat' ((conv => whnf) <;> first | (show idxK _ _ _ _ _; (first | refine idx_of _ 1 hut rfl (by omega) ?_ | refine idx_of _ 2 hut rfl (by omega) ?_ | refine idx_of _ 0 hus rfl (by omega) ?_ | refine idx_of _ 1 hus rfl (by omega) ?_ | refine idx_of _ 2 hus rfl (by omega) ?_ | refine idx_of _ 3 hus rfl (by omega) ?_)) | (show roK _ _ _; (first | refine ro_intv (fun R w' h => hur R w' h.1) (j := 1) (by omega) g1 ?_ | refine ro_intv (fun R w' h => hur R w' h.1) (j := 2) (by omega) g2 ?_ | refine ro_intv (fun R w' h => hsr R w' h.1) (j := 0) (by omega) s0 ?_ | refine ro_intv (fun R w' h => hsr R w' h.1) (j := 1) (by omega) s1 ?_ | refine ro_intv (fun R w' h => hsr R w' h.1) (j := 2) (by omega) s2 ?_ | refine ro_intv (fun R w' h => hsr R w' h.1) (j := 3) (by omega) s3 ?_)) | (show drawK _ 28 _ _ _ _ _ _; refine draw_tree tabOk mixed [25] _ dtJH0 (by kernel_rfl) (by kernel_rfl) (by kernel_rfl) (List.Sublist.refl _) ?_) | (show drawK _ 30 _ _ _ _ _ _; refine draw_tree tabOk mixed [] _ dtJH1 (by kernel_rfl) (by kernel_rfl) (by kernel_rfl) (List.Sublist.refl _) ?_) | (show drawK _ 52 _ _ _ _ _ _; refine draw_tree tabOk mixed [42] _ dtJH2 (by kernel_rfl) (by kernel_rfl) (by kernel_rfl) (List.Sublist.refl _) ?_) | (show drawK _ _ _ _ _ _ _ _; refine draw_quiet tabOk mixed (by kernel_rfl) ?_) | (show Wp _ _ _ _ _ _ _; refine Wp.go tabOk rfl ?_) | (show @cmpK _ _ _; (first | refine cmpY ?_ | refine cmpN ?_ | (refine cmp_both ?_ ?_ <;> intro _))) | (show wrapK _ _ _; refine wrapA ?_) | (show leK _ _ _; refine leA ?_) | (show roomK _ _ _; refine roomA ?_) | (show ltK _ _ _; refine ltA ?_) | (show _ ∧ _; refine ⟨?_, ?_⟩) | (show keepK _ _ _ _ _; refine keepA ?_) | refine own_keep ?_ | refine ap_old ?_))
        all_goals (conv => whnf)
        exact ⟨(y + 1, m, us, bs), [(3, some 5), (4, some 6)], ⟨⟨Int.le_add_one hy0, hyi⟩, hso, by rw [hmx, hxz, ← Int.add_assoc, Int.add_mul _ 1, Int.one_mul]⟩, by simp only; omega, rfl, ⟨rfl, rfl, rfl, rfl, rfl, rfl, rfl, rfl, trivial⟩, ⟨(by repeat (first | exact List.mem_cons_self | apply List.mem_cons_of_mem)), (by repeat (first | exact List.mem_cons_self | apply List.mem_cons_of_mem)), (by repeat (first | exact List.mem_cons_self | apply List.mem_cons_of_mem)), trivial⟩, fun _ _ h => h⟩
    · have hyz : y = H := Int.le_antisymm hy1 (Int.not_lt.1 hyi)
      (repeat' ((conv => whnf) <;> first | (show idxK _ _ _ _ _; (first | refine idx_of _ 1 hut rfl (by omega) ?_ | refine idx_of _ 2 hut rfl (by omega) ?_ | refine idx_of _ 0 hus rfl (by omega) ?_ | refine idx_of _ 1 hus rfl (by omega) ?_ | refine idx_of _ 2 hus rfl (by omega) ?_ | refine idx_of _ 3 hus rfl (by omega) ?_)) | (show roK _ _ _; (first | refine ro_intv (fun R w' h => hur R w' h.1) (j := 1) (by omega) g1 ?_ | refine ro_intv (fun R w' h => hur R w' h.1) (j := 2) (by omega) g2 ?_ | refine ro_intv (fun R w' h => hsr R w' h.1) (j := 0) (by omega) s0 ?_ | refine ro_intv (fun R w' h => hsr R w' h.1) (j := 1) (by omega) s1 ?_ | refine ro_intv (fun R w' h => hsr R w' h.1) (j := 2) (by omega) s2 ?_ | refine ro_intv (fun R w' h => hsr R w' h.1) (j := 3) (by omega) s3 ?_)) | (show drawK _ 28 _ _ _ _ _ _; refine draw_tree tabOk mixed [25] _ dtJH0 (by kernel_rfl) (by kernel_rfl) (by kernel_rfl) (List.Sublist.refl _) ?_) | (show drawK _ 30 _ _ _ _ _ _; refine draw_tree tabOk mixed [] _ dtJH1 (by kernel_rfl) (by kernel_rfl) (by kernel_rfl) (List.Sublist.refl _) ?_) | (show drawK _ 52 _ _ _ _ _ _; refine draw_tree tabOk mixed [42] _ dtJH2 (by kernel_rfl) (by kernel_rfl) (by kernel_rfl) (List.Sublist.refl _) ?_) | (show drawK _ _ _ _ _ _ _ _; refine draw_quiet tabOk mixed (by kernel_rfl) ?_) | (show Wp _ _ _ _ _ _ _; refine Wp.go tabOk rfl ?_) | (show @cmpK _ _ _; (first | refine cmpY ?_ | refine cmpN ?_ | (refine cmp_both ?_ ?_ <;> intro _))) | (show wrapK _ _ _; refine wrapA ?_) | (show leK _ _ _; refine leA ?_) | (show roomK _ _ _; refine roomA ?_) | (show ltK _ _ _; refine ltA ?_) | (show _ ∧ _; refine ⟨?_, ?_⟩) | (show keepK _ _ _ _ _; refine keepA ?_) | refine own_keep ?_ | refine ap_old ?_))
      all_goals (conv => whnf)
      exact ⟨(o + 1, m, us, bs), [(1, some 3), (2, some 4)], ⟨⟨Int.le_add_one ho0, hok⟩, hso, by rw [hmy, hyz, Int.add_mul o 1, Int.one_mul]⟩, by simp only; omega, rfl, ⟨rfl, rfl, rfl, rfl, rfl, rfl, rfl, trivial⟩, ⟨(by repeat (first | exact List.mem_cons_self | apply List.mem_cons_of_mem)), (by repeat (first | exact List.mem_cons_self | apply List.mem_cons_of_mem)), (by repeat (first | exact List.mem_cons_self | apply List.mem_cons_of_mem)), trivial⟩, fun _ _ h => h⟩
  · have hoz : o = k0 := Int.le_antisymm ho1 (Int.not_lt.1 hok)
    rw [hoz] at hmo
    have hmcnt : m = cnt := Int.ofNat.inj (hmo.trans hcnt.symm)
    subst hmcnt
    (repeat' ((conv => whnf) <;> first | (show idxK _ _ _ _ _; (first | refine idx_of _ 1 hut rfl (by omega) ?_ | refine idx_of _ 2 hut rfl (by omega) ?_ | refine idx_of _ 0 hus rfl (by omega) ?_ | refine idx_of _ 1 hus rfl (by omega) ?_ | refine idx_of _ 2 hus rfl (by omega) ?_ | refine idx_of _ 3 hus rfl (by omega) ?_)) | (show roK _ _ _; (first | refine ro_intv (fun R w' h => hur R w' h.1) (j := 1) (by omega) g1 ?_ | refine ro_intv (fun R w' h => hur R w' h.1) (j := 2) (by omega) g2 ?_ | refine ro_intv (fun R w' h => hsr R w' h.1) (j := 0) (by omega) s0 ?_ | refine ro_intv (fun R w' h => hsr R w' h.1) (j := 1) (by omega) s1 ?_ | refine ro_intv (fun R w' h => hsr R w' h.1) (j := 2) (by omega) s2 ?_ | refine ro_intv (fun R w' h => hsr R w' h.1) (j := 3) (by omega) s3 ?_)) | (show drawK _ 28 _ _ _ _ _ _; refine draw_tree tabOk mixed [25] _ dtJH0 (by kernel_rfl) (by kernel_rfl) (by kernel_rfl) (List.Sublist.refl _) ?_) | (show drawK _ 30 _ _ _ _ _ _; refine draw_tree tabOk mixed [] _ dtJH1 (by kernel_rfl) (by kernel_rfl) (by kernel_rfl) (List.Sublist.refl _) ?_) | (show drawK _ 52 _ _ _ _ _ _; refine draw_tree tabOk mixed [42] _ dtJH2 (by kernel_rfl) (by kernel_rfl) (by kernel_rfl) (List.Sublist.refl _) ?_) | (show drawK _ _ _ _ _ _ _ _; refine draw_quiet tabOk mixed (by kernel_rfl) ?_) | (show Wp _ _ _ _ _ _ _; refine Wp.go tabOk rfl ?_) | (show @cmpK _ _ _; (first | refine cmpY ?_ | refine cmpN ?_ | (refine cmp_both ?_ ?_ <;> intro _))) | (show wrapK _ _ _; refine wrapA ?_) | (show leK _ _ _; refine leA ?_) | (show roomK _ _ _; refine roomA ?_) | (show ltK _ _ _; refine ltA ?_) | (show _ ∧ _; refine ⟨?_, ?_⟩) | (show keepK _ _ _ _ _; refine keepA ?_) | refine own_keep ?_ | refine ap_old ?_))
    all_goals (conv => whnf)
    exact mat_end_new (i := 1) (j := 2) (B := ⟨w, []⟩) (S := (baseA w).and (eachA w.heap.size us)) (bs := bs) (fun _ _ h => h.1) (fun _ _ h => h.2) rfl (by repeat (first | exact List.mem_cons_self | apply List.mem_cons_of_mem)) (by repeat (first | exact List.mem_cons_self | apply List.mem_cons_of_mem)) hso.rows.len.symm hso.blen.symm hso.rows hso.bias (fun x hx => by
      rw [hso.bias] at hx
      obtain ⟨k, _, rfl⟩ := List.mem_map.1 hx
      have : bd20 (biasI n m k) := by
        unfold biasI
        rw [if_neg (by omega), if_pos hk]
        exact getD_bd hbb _
      unfold bd20 at this
      exact ⟨by omega, by omega⟩) (by rw [hso.blen]; omega)
end Go.Proofs.Ytdmkdogakbipbaa

/- JM -/
namespace Go.Proofs.Ytdmkdogakbipbaa
open Go.SX Go.RowKit
set_option maxHeartbeats 1000000 in
theorem mat_all (w : World) (n : NodeV) (sh : List (List Int)) (s : List Int) (t : IntsV) (cnt : Nat) (h : PlaceIn n sh s t.xs cnt) (hl : isLin n) (hno : n.ok w) (hto : t.ok w) : Calls Try.prog 66 #[n.valA, t.val] w (MatPost w n t.xs cnt) := by
  obtain ⟨F, P0, hL⟩ := h.lin hl
  have hat := hL.at_
  have hsh := h.node.shape
  have hfo := formed_of h.node.form
  have h4 := form4 h.node.form
  obtain ⟨nd, nb, _, _, _⟩ := near_in h.node.near
  have heb := (entries_bd t.xs).2
  have hc := h.cnt
  have hfew := h.few
  have hgs := h.pos
  obtain ⟨ht, hg⟩ := h.first hl
  obtain ⟨size, hsz⟩ : ∃ size : Nat, entries t.xs = size := ⟨(entries t.xs).toNat, by omega⟩
  rcases hl with hk | hk | hk
  · unfold shapeO at hsh
    rw [if_neg (by omega), if_pos hk, ht] at hsh
    by_cases hdl : (n.data.xs.length : Int) = n.bias.xs.length * entries t.xs
    · rw [if_pos hdl, Option.some.injEq] at hsh
      obtain ⟨b1, b2⟩ := hfo.bias hk
      have he1 : entries [(n.bias.xs.length : Int)] = n.bias.xs.length := by
        unfold entries
        rw [if_neg (by simp)]
        simp only [entLoop]
        rw [if_neg (by omega)]
        omega
      rw [← hsh, he1] at hc
      have hbl : n.bias.xs.length = cnt := by omega
      have hdl' : n.data.xs.length = n.bias.xs.length * size := by
        rw [hsz, ← Int.natCast_mul] at hdl
        exact Int.ofNat.inj hdl
      rw [hbl] at hdl'
      exact mat_dense w n t hto hno hk size cnt hsz (by omega) hbl hfew hdl'
    · rw [if_neg hdl] at hsh; cases hsh
  · obtain ⟨g1, g2⟩ := h4 hk
    have hker := hfo.kern hk
    obtain ⟨hl4, hdim⟩ := kernel_dims hker
    have hsx := list4 hl4
    have hC := conv_in h hk
    unfold shapeO at hsh
    rw [if_neg (by omega), if_neg (by omega), if_pos hk, ht] at hsh
    have hG : ∀ o, termsG n t.xs o = convT n.data.xs (n.shape.xs.getD 1 0) (n.shape.xs.getD 2 0) (n.shape.xs.getD 3 0) (t.xs.getD 1 0) (t.xs.getD 2 0) o := fun o => by unfold termsG; rw [if_neg (by omega), if_pos hk]
    have dm : ∀ k, k < 4 → 1 ≤ n.shape.xs.getD k 0 ∧ n.shape.xs.getD k 0 ≤ 64 := fun k hk => hdim _ (getD_mem (by omega))
    have dm0 := dm 0 (by decide)
    have dm1 := dm 1 (by decide)
    have dm2 := dm 2 (by decide)
    have dm3 := dm 3 (by decide)
    rw [hsx] at g1 hker
    have hke := kernel4I hker
    rw [hke] at g1
    by_cases hbad : t.xs.length ≠ 3 ∨ t.xs.getD 0 0 ≠ n.shape.xs.getD 1 0 ∨ t.xs.getD 1 0 < n.shape.xs.getD 2 0 ∨ t.xs.getD 2 0 < n.shape.xs.getD 3 0
    · rw [if_pos hbad] at hsh; cases hsh
    rw [if_neg hbad] at hsh
    have hl3 : t.xs.length = 3 := by omega
    have htx := len3 hl3
    have h0 : t.xs.getD 0 0 = n.shape.xs.getD 1 0 := by omega
    rw [h0] at htx
    have tdm := (entries_dims hg).2.2
    have td1 := tdm _ (getD_mem (xs := t.xs) (k := 1) (by omega))
    have td2 := tdm _ (getD_mem (xs := t.xs) (k := 2) (by omega))
    by_cases hpos : 0 < entries [n.shape.xs.getD 0 0, t.xs.getD 1 0 - n.shape.xs.getD 2 0 + 1, t.xs.getD 2 0 - n.shape.xs.getD 3 0 + 1]
    · rw [if_pos hpos, Option.some.injEq] at hsh
      have hcv := entries3_valI hpos
      rw [hsh, hc] at hcv
      exact mat_conv w n t hto hno hk size cnt _ _ _ _ _ _ hsx htx hsz (by omega) dm0 dm1 hC.k2 hC.k3 td1.2 td2.2 g1 g2 nd nb hcv hfew.2 fun o ho x hx => by
        have := hat o ho x (by rw [hG]; exact hx)
        rw [hsz] at this
        exact this
    · rw [if_neg hpos] at hsh; cases hsh
  · have hP := pool_in h hk
    unfold shapeO at hsh
    rw [if_neg (by omega), if_neg (by omega), if_neg (by omega), if_pos hk, ht] at hsh
    have hG : ∀ o, termsG n t.xs o = poolT n.size (t.xs.getD 1 0) (t.xs.getD 2 0) o := fun o => by unfold termsG; rw [if_neg (by omega), if_neg (by omega)]
    by_cases hbad : t.xs.length ≠ 3 ∨ t.xs.getD 1 0 % n.size ≠ 0 ∨ t.xs.getD 2 0 % n.size ≠ 0
    · rw [if_pos hbad] at hsh; cases hsh
    rw [if_neg hbad, Option.some.injEq] at hsh
    have hl3 : t.xs.length = 3 := by omega
    have htx := len3 hl3
    have tdm := (entries_dims hg).2.2
    have td0 := tdm _ (getD_mem (xs := t.xs) (k := 0) (by omega))
    have td1 := tdm _ (getD_mem (xs := t.xs) (k := 1) (by omega))
    have td2 := tdm _ (getD_mem (xs := t.xs) (k := 2) (by omega))
    have hpos : 0 < entries [t.xs.getD 0 0, t.xs.getD 1 0 / n.size, t.xs.getD 2 0 / n.size] := by
      have := shape_good hfo hgs h.node.shape rfl
      rw [hsh]; exact this
    have hcv := entries3_valI hpos
    rw [hsh, hc] at hcv
    exact mat_pool w n t hto hno hk size cnt _ _ _ htx hsz (by omega) td0 ⟨hP.z1, td1.2⟩ ⟨hP.z2, td2.2⟩ hP.z hP.m1 hP.m2 hcv hfew.2 fun o ho x hx => by
      have := hat o ho x (by rw [hG]; exact hx)
      rw [hsz] at this
      exact this
end Go.Proofs.Ytdmkdogakbipbaa

/- JN -/
namespace Go.Proofs.Ytdmkdogakbipbaa
abbrev dtJN0 : Go.SX.DT := (.take 0 (.take 1 (.take 2 (.take 3 (.take 4 (.take 5 (.take 6 (.one 7 (.one 8 (.done))))))))))
open Go.SX Go.RowKit
theorem foldl_take {f : Int → Int → Int} {x : Int} {l : List Int} {i : Nat} (h : i < l.length) : (l.take (i + 1)).foldl f x = f ((l.take i).foldl f x) (l.getD i 0) := by
  have e : l.getD i 0 = l[i] := by rw [List.getD_eq_getElem?_getD, List.getElem?_eq_getElem h]; rfl
  rw [List.take_succ_eq_append_getElem h, List.foldl_append, e]; rfl
theorem foldI_self {f : Int → Int → Int} (hf : ∀ x, f x x = x) {l : List Int} (h : 1 ≤ l.length) : l.foldl f (l.getD 0 0) = foldI f l := by
  cases l with
  | nil => simp at h
  | cons x r => show (r.foldl f (f x x)) = r.foldl f x; rw [hf]
set_option maxRecDepth 20000 in
theorem cover_any (w : World) (l : IntsV) (hl : l.ok w) (h1 : 1 ≤ l.xs.length) : Calls Try.prog 108 #[l.val] w fun e w' => e = .returned (spanV (foldI min l.xs, foldI max l.xs)) ∧ Ext w w' := by
  obtain ⟨ua, hua⟩ := hl.base h1
  have hur : ∀ (R : Nat → Prop) w', (baseA w).holds R w' → RowsI w' (some ua) 1 (ints l.xs) := fun R w' h => by rw [← hua]; exact rows_base h hl.rows
  have hf := hl.few
  refine calls_of tab tabOk Try.func108 rfl rfl rfl [] (fun _ => ⟨none, 0⟩) [.c l.val] [] (baseA w) 0 rfl rfl (by show 1 ≤ _; decide) (abs_base w) ?_
  (repeat' ((conv => whnf) <;> first | (show idxK _ _ _ _ _; refine idx_of ua 0 hua rfl (by omega) ?_) | (show roK _ _ _; refine ro_int hur (j := 0) (by omega) ?_) | (show drawK _ 1 _ _ _ _ _ _; refine draw_tree tabOk mixed [8] _ dtJN0 (by kernel_rfl) (by kernel_rfl) (by kernel_rfl) (List.Sublist.refl _) ?_) | (show Wp _ _ _ _ _ _ _; refine Wp.go tabOk rfl ?_) | (show @cmpK _ _ _; (first | refine cmpY ?_ | refine cmpN ?_ | (refine cmp_both ?_ ?_ <;> intro _))) | (show wrapK _ _ _; refine wrapA ?_) | (show leK _ _ _; refine leA ?_) | (show roomK _ _ _; refine roomA ?_) | (show ltK _ _ _; refine ltA ?_) | (show _ ∧ _; refine ⟨?_, ?_⟩) | (show keepK _ _ _ _ _; refine keepA ?_) | refine own_keep ?_ | refine ap_old ?_))
  all_goals refine Wp.loop (σ := Nat) 2 (fun i => [(2, .lp 0 0 0 0), (3, .lp 1 0 0 0), (13, .c l.val), (14, .c (.int .i64 l.xs.length)), (15, .c (.int .i64 i))]) (fun i => [(1, .box [.c (.int .i64 ((l.xs.take i).foldl min (l.xs.getD 0 0))), .c (.int .i64 ((l.xs.take i).foldl max (l.xs.getD 0 0)))] 68), (0, .box [.c (.int .i64 0), .c (.int .i64 0)] 68)]) (fun _ => baseA w) (fun i => i ≤ l.xs.length) (fun i => l.xs.length - i) 0 [] (by decide) (fun s => ⟨rfl, rfl⟩) (Nat.zero_le _) ⟨rfl, ⟨rfl, rfl, rfl, rfl, rfl, trivial⟩, ⟨(by repeat (first | exact List.mem_cons_self | apply List.mem_cons_of_mem)), (by repeat (first | exact List.mem_cons_self | apply List.mem_cons_of_mem)), trivial⟩, fun _ _ h => h⟩ ?_
  all_goals rintro i hi
  all_goals by_cases hlt : i < l.xs.length
  · (repeat' ((conv => whnf) <;> first | (show idxK _ _ _ _ _; refine idx_of ua i hua rfl hlt ?_) | (show roK _ _ _; refine ro_int hur (j := i) hlt ?_) | (show drawK _ 1 _ _ _ _ _ _; refine draw_tree tabOk mixed [8] _ dtJN0 (by kernel_rfl) (by kernel_rfl) (by kernel_rfl) (List.Sublist.refl _) ?_) | (show Wp _ _ _ _ _ _ _; refine Wp.go tabOk rfl ?_) | (show @cmpK _ _ _; (first | refine cmpY ?_ | refine cmpN ?_ | (refine cmp_both ?_ ?_ <;> intro _))) | (show wrapK _ _ _; refine wrapA ?_) | (show leK _ _ _; refine leA ?_) | (show roomK _ _ _; refine roomA ?_) | (show ltK _ _ _; refine ltA ?_) | (show _ ∧ _; refine ⟨?_, ?_⟩) | (show keepK _ _ _ _ _; refine keepA ?_) | refine own_keep ?_ | refine ap_old ?_))
    all_goals (conv => whnf)
    all_goals exact ⟨i + 1, [], hlt, by omega, rfl, ⟨rfl, rfl, rfl, rfl, rfl, trivial⟩, ⟨by rw [foldl_take hlt, foldl_take hlt]; first | (rw [Int.min_eq_left (by omega), Int.max_eq_left (by omega)]; exact (by repeat (first | exact List.mem_cons_self | apply List.mem_cons_of_mem))) | (rw [Int.min_eq_left (by omega), Int.max_eq_right (by omega)]; exact (by repeat (first | exact List.mem_cons_self | apply List.mem_cons_of_mem))) | (rw [Int.min_eq_right (by omega), Int.max_eq_left (by omega)]; exact (by repeat (first | exact List.mem_cons_self | apply List.mem_cons_of_mem))) | (rw [Int.min_eq_right (by omega), Int.max_eq_right (by omega)]; exact (by repeat (first | exact List.mem_cons_self | apply List.mem_cons_of_mem))), (by repeat (first | exact List.mem_cons_self | apply List.mem_cons_of_mem)), trivial⟩, fun _ _ h => h⟩
  · obtain rfl : i = l.xs.length := by omega
    rw [List.take_of_length_le (Nat.le_refl _), foldI_self (by omega) h1, foldI_self (by omega) h1]
    (repeat' ((conv => whnf) <;> first | (show drawK _ 1 _ _ _ _ _ _; refine draw_tree tabOk mixed [8] _ dtJN0 (by kernel_rfl) (by kernel_rfl) (by kernel_rfl) (List.Sublist.refl _) ?_) | (show Wp _ _ _ _ _ _ _; refine Wp.go tabOk rfl ?_) | (show @cmpK _ _ _; (first | refine cmpY ?_ | refine cmpN ?_ | (refine cmp_both ?_ ?_ <;> intro _))) | (show wrapK _ _ _; refine wrapA ?_) | (show leK _ _ _; refine leA ?_) | (show roomK _ _ _; refine roomA ?_) | (show ltK _ _ _; refine ltA ?_) | (show _ ∧ _; refine ⟨?_, ?_⟩) | (show keepK _ _ _ _ _; refine keepA ?_) | refine own_keep ?_ | refine ap_old ?_))
    all_goals (conv => whnf)
    all_goals exact ends_of (fun _ _ h => h) (fun _ => rfl) rfl
theorem linear_any (w : World) (k : Int) : Calls Try.prog 85 #[.int .i64 k] w fun e w' => e = .returned (.bool (decide (k = 3 ∨ k = 4 ∨ k = 5))) ∧ Ext w w' := by
  refine calls_of tab tabOk Try.func85 rfl rfl rfl [] (fun _ => ⟨none, 0⟩) [.c (.int .i64 k)] [] (baseA w) 0 rfl rfl (by show 1 ≤ _; decide) (abs_base w) ?_
  (repeat' ((conv => whnf) <;> first | (show Wp _ _ _ _ _ _ _; refine Wp.go tabOk rfl ?_) | (show @cmpK _ _ _; (first | refine cmpY ?_ | refine cmpN ?_ | (refine cmp_both ?_ ?_ <;> intro _))) | (show wrapK _ _ _; refine wrapA ?_) | (show leK _ _ _; refine leA ?_) | (show roomK _ _ _; refine roomA ?_) | (show ltK _ _ _; refine ltA ?_) | (show _ ∧ _; refine ⟨?_, ?_⟩) | (show keepK _ _ _ _ _; refine keepA ?_) | refine own_keep ?_ | refine ap_old ?_))
  all_goals (conv => whnf)
  all_goals exact ends_of (fun _ _ h => h) (fun _ => by first | (rw [decide_eq_true (by omega)]; rfl) | (rw [decide_eq_false (by omega)]; rfl)) rfl
theorem rpower_any (w : World) (c b a v : Int) (hc : bd20 c) (hb : bd20 b) (ha : bd20 a) (hv : bd20 v) : Calls Try.prog 86 #[.int .i64 c, .int .i64 b, .int .i64 a, .int .i64 v] w fun e w' => e = .returned (.int .i64 (a * v * v + b * v + c)) ∧ Ext w w' := by
  obtain ⟨h1, h2, h3⟩ := pow_bd ha hb hc hv
  unfold bd20 at hc
  refine calls_of tab tabOk Try.func86 rfl rfl rfl [] (fun _ => ⟨none, 0⟩) [.c (.int .i64 c), .c (.int .i64 b), .c (.int .i64 a), .c (.int .i64 v)] [] (baseA w) 0 rfl rfl (by show 4 ≤ _; decide) (abs_base w) ?_
  (repeat' ((conv => whnf) <;> first | (show Wp _ _ _ _ _ _ _; refine Wp.go tabOk rfl ?_) | (show @cmpK _ _ _; (first | refine cmpY ?_ | refine cmpN ?_ | (refine cmp_both ?_ ?_ <;> intro _))) | (show wrapK _ _ _; refine wrapA ?_) | (show leK _ _ _; refine leA ?_) | (show roomK _ _ _; refine roomA ?_) | (show ltK _ _ _; refine ltA ?_) | (show _ ∧ _; refine ⟨?_, ?_⟩) | (show keepK _ _ _ _ _; refine keepA ?_) | refine own_keep ?_ | refine ap_old ?_))
  all_goals (conv => whnf)
  all_goals exact ends_of (fun _ _ h => h) (fun _ => rfl) rfl
end Go.Proofs.Ytdmkdogakbipbaa

/- JO -/
namespace Go.Proofs.Ytdmkdogakbipbaa
open Go.SX Go.RowKit
theorem call_mat {cx : Cx} {f : FuncId} {args : List SV} {H : Heap} {S : Asn} {nx : Nat} {K : SV → Heap → Asn → Nat → Prop} (n : NodeV) (tl : List Int) (cnt : Nat) (hf : ∀ ar w, (callFunc f ar).run cx.P w = .ok (.enter f ar) w)
    (hc : ∀ ρ w', Abs cx.B ρ nx H S w' → Calls cx.P f (SV.rfs ρ args).toArray w' (MatPost w' n tl cnt))
    (h : ∀ x : MatV, MatIs n tl cnt x → K (.c x.val) H (S.and ((matD x).past cx.B.w0.heap.size)) nx) : callK cx f args H S nx K := by
  rw [callK_def]
  refine ⟨hf, fun ρ w hw => (hc ρ w hw).mono ?_⟩
  rintro e w' ⟨x, hx, rfl, he, hD⟩
  exact ⟨.c x.val, ρ, H, _, nx, rfl, fun _ _ => rfl, Nat.le_refl _, SV.lt_c _, hw.grow he hD, h x hx⟩
theorem sumG_bd (g : Nat → Int → Int) (B : Int) : ∀ {l : List Int} {i : Nat}, (∀ k w, w ∈ l → -B ≤ g k w ∧ g k w ≤ B) → -(l.length * B) ≤ sumG g i l ∧ sumG g i l ≤ l.length * B
  | [], i, _ => by simp [sumG]
  | x :: r, i, h => by
    have h1 := h i x List.mem_cons_self
    have h2 := sumG_bd g B (l := r) (i := i + 1) (fun k w hw => h k w (List.mem_cons_of_mem _ hw))
    rw [sumG, List.length_cons, Int.natCast_add, Int.add_mul]
    simp only [Int.natCast_one, Int.one_mul]
    omega
theorem sumG_bd40 (g : Nat → Int → Int) {l : List Int} {j : Nat} (hj : j ≤ 64) (h : ∀ k w, w ∈ l → -1099511627776 ≤ g k w ∧ g k w ≤ 1099511627776) : -70368744177664 ≤ sumG g 0 (l.take j) ∧ sumG g 0 (l.take j) ≤ 70368744177664 := by
  have := sumG_bd g 1099511627776 (l := l.take j) (i := 0) (fun k w hw => h k w (List.mem_of_mem_take hw))
  rw [List.length_take] at this
  have e : ((min j l.length : Nat) : Int) ≤ 64 := by omega
  omega
theorem dense_cut {n : NodeV} {sh : List (List Int)} {s t : List Int} {cnt : Nat} (h : PlaceIn n sh s t cnt) (hk : n.kind = 3) {o : Nat} (ho : o < cnt) : o * (entries t).toNat + (entries t).toNat ≤ n.data.xs.length := by
  have hsh := h.node.shape
  have hc := h.cnt
  obtain ⟨hf, hgp⟩ := h.first (.inl hk)
  obtain ⟨b1, b2⟩ := (formed_of h.node.form).bias hk
  unfold shapeO at hsh
  rw [if_neg (by omega), if_pos hk, hf] at hsh
  split at hsh
  · rename_i hdl
    rw [Option.some.injEq] at hsh
    have he1 : entries [(n.bias.xs.length : Int)] = n.bias.xs.length := by
      unfold entries
      rw [if_neg (by simp)]
      simp only [entLoop]
      rw [if_neg (by omega)]
      omega
    rw [← hsh, he1] at hc
    obtain ⟨size, hsz⟩ : ∃ size : Nat, entries t = size := ⟨(entries t).toNat, by omega⟩
    have hdl' : n.data.xs.length = n.bias.xs.length * size := by
      rw [hsz, ← Int.natCast_mul] at hdl
      exact Int.ofNat.inj hdl
    rw [hsz, Int.toNat_natCast]
    have : (o + 1) * size ≤ n.bias.xs.length * size := Nat.mul_le_mul_right _ (by omega)
    rw [Nat.add_mul, Nat.one_mul] at this
    omega
  · cases hsh
theorem mat_len {n : NodeV} {sh : List (List Int)} {s t : List Int} {cnt : Nat} (h : PlaceIn n sh s t cnt) {o : Nat} (ho : o < cnt) : (matRow n t o).length = (entries t).toNat := by
  unfold matRow
  split
  · rename_i hk
    have := dense_cut h hk ho
    rw [List.length_take, List.length_drop]; omega
  · rw [setsT_length, List.length_replicate]
theorem mat_bd {n : NodeV} {sh : List (List Int)} {s : List Int} {t : IntsV} {cnt : Nat} (h : PlaceIn n sh s t.xs cnt) (hl : isLin n) (o : Nat) : ∀ x ∈ matRow n t.xs o, bd20 x := by
  obtain ⟨nd, nb, _, _, _⟩ := near_in h.node.near
  intro x hx
  unfold matRow at hx
  split at hx
  · exact nd x (List.mem_of_mem_drop (List.mem_of_mem_take hx))
  · rename_i hk3
    refine sets_bd _ _ (fun y hy => by rw [(List.mem_replicate.1 hy).2]; exact ⟨by decide, by decide⟩) (fun u hu => ?_) x hx
    unfold termsG at hu
    rw [if_neg hk3] at hu
    split at hu
    · exact convT_bd nd rfl u hu
    · exact poolT_bd rfl u hu
theorem bias_bd {n : NodeV} (nb : ∀ x ∈ n.bias.xs, bd20 x) (cnt o : Nat) : bd20 (biasI n cnt o) := by
  unfold biasI
  split
  · exact getD_bd nb _
  · split
    · exact getD_bd nb _
    · exact ⟨by decide, by decide⟩
theorem MatIs.row {n : NodeV} {tl : List Int} {cnt : Nat} {x : MatV} (h : MatIs n tl cnt x) {o : Nat} (ho : o < x.rows.l.length) : x.rows.l.length = cnt ∧ x.rows.l[o].xs = matRow n tl o ∧ x.bias.xs.length = cnt ∧ x.bias.xs.getD o 0 = biasI n cnt o := by
  have h1 : x.rows.l.length = cnt := by
    have := congrArg List.length h.rows
    simpa [matRows] using this
  have h2 : (x.rows.l.map IntsV.xs)[o]? = ((List.range cnt).map (matRow n tl))[o]? := by rw [h.rows]; rfl
  rw [List.getElem?_map, List.getElem?_eq_getElem ho, List.getElem?_map, List.getElem?_range (by omega)] at h2
  have h3 : x.bias.xs.length = cnt := by rw [h.bias]; simp [matBias]
  refine ⟨h1, by simpa using h2, h3, ?_⟩
  rw [h.bias, matBias, List.getD_eq_getElem?_getD, List.getElem?_map, List.getElem?_range (by omega)]; rfl
theorem MatIs.count {n : NodeV} {tl : List Int} {cnt : Nat} {x : MatV} (h : MatIs n tl cnt x) : x.rows.l.length = cnt := by
  have := congrArg List.length h.rows
  simpa [matRows] using this
theorem MatIs.rowsOk {n : NodeV} {tl : List Int} {cnt : Nat} {x : MatV} (h : MatIs n tl cnt x) {w w' : World} {R : Nat → Prop} {N : Nat} (hno : n.ok w') (hD : ((matD x).past N).holds R w') : ∀ u ∈ x.rows.l, u.ok w' := fun u hu => by
  cases hx : x.own with
  | true => exact intsA_ok (h.sane u hu) ((hD.2 hx).1 u hu)
  | false => exact (h.old hx).2 w' hno.data u hu
theorem MatIs.biasOk {n : NodeV} {tl : List Int} {cnt : Nat} {x : MatV} (h : MatIs n tl cnt x) {w w' : World} {R : Nat → Prop} {N : Nat} (hno : n.ok w') (hD : ((matD x).past N).holds R w') : x.bias.ok w' := by
  cases hx : x.own with
  | true => exact intsA_ok h.biasSane (hD.2 hx).2
  | false => rw [(h.old hx).1]; exact hno.bias
end Go.Proofs.Ytdmkdogakbipbaa

/- JP -/
namespace Go.Proofs.Ytdmkdogakbipbaa
abbrev dtJP0 : Go.SX.DT := (.take 0 (.take 1 (.take 2 (.take 3 (.take 4 (.take 5 (.one 6 (.take 7 (.take 8 (.take 9 (.take 10 (.take 11 (.done)))))))))))))
abbrev dtJP1 : Go.SX.DT := (.take 0 (.take 1 (.take 2 (.take 3 (.take 4 (.take 5 (.take 6 (.take 7 (.take 8 (.take 9 (.take 10 (.take 11 (.take 12 (.take 13 (.one 14 (.one 15 (.one 16 (.done))))))))))))))))))
abbrev dtJP2 : Go.SX.DT := (.take 0 (.take 1 (.take 2 (.take 3 (.take 4 (.take 6 (.take 7 (.take 8 (.take 9 (.take 10 (.one 5 (.one 11 (.one 12 (.take 13 (.done)))))))))))))))
open Go.SX Go.RowKit
theorem spRows_getD {l : List Sp} {k : Nat} (h : k < l.length) : (spRows l)[k]? = some [.int .i64 (l.getD k (0, 0)).1, .int .i64 (l.getD k (0, 0)).2] := by
  rw [spRows_get h, List.getD_eq_getElem?_getD, List.getElem?_eq_getElem h]; rfl
set_option maxRecDepth 20000 in
set_option maxHeartbeats 4000000 in
theorem span_lin (w : World) (n : NodeV) (sh : List (List Int)) (s : List Int) (sv : ShapesV) (hs : sv.ok w) (t : IntsV) (cnt : Nat) (h : PlaceIn n sh s t.xs cnt) (hl : isLin n) (hno : n.ok w) (ht : sv.l[n.a.toNat]? = some t) (ha0 : 0 ≤ n.a) (b2 : Option Addr) (c2 : Nat) (acc : List Sp) (hacc : RowsI w b2 2 (spRows acc)) (hlt : n.a.toNat < acc.length) (hbd : bd20 (acc.getD n.a.toNat (0, 0)).1 ∧ bd20 (acc.getD n.a.toNat (0, 0)).2) : Calls Try.prog 84 #[n.valA, sv.val, .slice b2 acc.length c2] w fun e w' => e = .returned (spanV (spanE (linEnds n cnt (termsG n t.xs) (acc.getD n.a.toNat (0, 0))))) ∧ Ext w w' := by
  obtain ⟨htl, hte⟩ := List.getElem?_eq_some_iff.1 ht
  have htm : t ∈ sv.l := hte ▸ List.getElem_mem htl
  have hto := hs.each t htm
  obtain ⟨a2, ha2⟩ : ∃ a, b2 = some a := base_some (j := n.a.toNat) hacc (by rw [spRows_length]; exact hlt)
  obtain ⟨sa, hsa⟩ : ∃ a, sv.base = some a := base_some (j := n.a.toNat) hs.rows (by rw [shRows_length]; exact htl)
  have hrowA := spRows_getD hlt
  have hrowT : (shRows sv.l)[n.a.toNat]? = some [t.val] := by rw [shRows_get htl, hte]
  have hna : n.a = (n.a.toNat : Int) := (Int.toNat_of_nonneg ha0).symm
  have hfew := h.few
  have hsums : ∀ o, o < cnt → ∀ g : Nat → Int → Int, (∀ k, g k 0 = 0) → sumG g 0 (matRow n t.xs o) = sumT g (termsG n t.xs o) := fun o ho g hg => mat_sum h hl ho g hg
  have hrl : ∀ o, o < cnt → (matRow n t.xs o).length = (entries t.xs).toNat := fun o ho => mat_len h ho
  have hrb : ∀ o, ∀ x ∈ matRow n t.xs o, bd20 x := fun o => mat_bd h hl o
  obtain ⟨nd, nb, _, _, _⟩ := near_in h.node.near
  have hsz := (entries_bd t.xs).2
  have hmat : ∀ w', n.ok w' → t.ok w' → Calls Try.prog 66 #[n.valA, t.val] w' (MatPost w' n t.xs cnt) := fun w' h1 h2 => mat_all w' n sh s t cnt h hl h1 h2
  have hpos : 1 ≤ (entries t.xs).toNat := by have := (h.first hl).2; omega
  have hkind : n.kind = 3 ∨ n.kind = 4 ∨ n.kind = 5 := hl
  have hTbf : (∀ o, o < cnt → (termsG n t.xs o).length ≤ 64) ∧ ∀ o, o < cnt → ∀ s ∈ termsG n t.xs o, bd20 s.1 := by
    obtain ⟨F, P0, hL⟩ := h.lin hl
    exact ⟨(hL.terms w hto hno).few, (hL.terms w hto hno).bd⟩
  generalize acc.getD n.a.toNat (0, 0) = a at *
  obtain ⟨ha1, hah⟩ := hbd
  clear hl
  have hlinC : ∀ w', Calls Try.prog 85 #[.int .i64 n.kind] w' fun e w'' => e = .returned (.bool true) ∧ Ext w' w'' := fun w' => by
    have := linear_any w' n.kind
    rw [decide_eq_true hkind] at this
    exact this
  refine calls_of tab tabOk Try.func84 rfl rfl rfl [] (fun _ => ⟨none, 0⟩) [.agg [.c (.int .i64 n.kind), .c (.int .i64 n.a), .c (.int .i64 n.b), .c n.shape.val, .c (.int .i64 n.lo), .c (.int .i64 n.hi), .c (.int .i64 n.size), .c n.data.val, .c n.bias.val], .c sv.val, .c (.slice b2 acc.length c2)] [] (baseA w) 0 rfl rfl (by show 3 ≤ _; decide) (abs_base w) ?_
  (repeat' ((conv => whnf) <;> first | (show callK _ 85 _ _ _ _ _; refine call_pure (f := 85) Try.call85 (.bool true) (fun ρ w' hw => hlinC w') ?_) | (show idxK _ _ _ _ _; (first | refine idx_of a2 n.a.toNat ha2 hna hlt ?_ | refine idx_of sa n.a.toNat hsa hna htl ?_)) | (show roAggK _ _ _ _; (refine roAgg_row (fun R w' h => by rw [← ha2]; exact rows_base h hacc) _ hrowA rfl ?_)) | (show roK _ _ _; (refine ro_row0 (fun R w' h => by rw [← hsa]; exact rows_base h hs.rows) _ _ hrowT rfl ?_)) | (show callK _ 66 _ _ _ _ _; refine call_mat (f := 66) n t.xs cnt Try.call66 (fun ρ w' hw => hmat w' (holds_of_abs hw fun R h => hno.later h) (holds_of_abs hw fun R h => hto.later h)) (fun x hx => ?_)) | (show drawK _ 8 _ _ _ _ _ _; refine draw_tree tabOk mixed [] _ dtJP0 (by kernel_rfl) (by kernel_rfl) (by kernel_rfl) (List.Sublist.refl _) ?_) | (show drawK _ 28 _ _ _ _ _ _; refine draw_tree tabOk mixed [16] _ dtJP1 (by kernel_rfl) (by kernel_rfl) (by kernel_rfl) (List.Sublist.refl _) ?_) | (show drawK _ 31 _ _ _ _ _ _; refine draw_tree tabOk mixed [] _ dtJP2 (by kernel_rfl) (by kernel_rfl) (by kernel_rfl) (List.Sublist.refl _) ?_) | (show drawK _ _ _ _ _ _ _ _; refine draw_quiet tabOk mixed (by kernel_rfl) ?_) | (show Wp _ _ _ _ _ _ _; refine Wp.go tabOk rfl ?_) | (show @cmpK _ _ _; (first | refine cmpY ?_ | refine cmpN ?_ | (refine cmp_both ?_ ?_ <;> intro _))) | (show wrapK _ _ _; refine wrapA ?_) | (show leK _ _ _; refine leA ?_) | (show roomK _ _ _; refine roomA ?_) | (show ltK _ _ _; refine ltA ?_) | (show _ ∧ _; refine ⟨?_, ?_⟩) | (show keepK _ _ _ _ _; refine keepA ?_) | refine own_keep ?_ | refine ap_old ?_))
  all_goals (conv => whnf)
  have hxc := hx.count
  refine Wp.know (p := ∃ a, x.rows.base = some a) (fun ρ w' hw => holds_of_abs hw fun R h => base_some (j := 0) (rowsA_in h.2.1) (by rw [shRows_length]; omega)) ?_
  rintro ⟨xa, hxa⟩
  refine Wp.know (p := ∃ a, x.bias.base = some a) (fun ρ w' hw => holds_of_abs hw fun R h => (hx.biasOk (w := w) (hno.later h.1) h.2).base (by rw [hx.bias]; simp [matBias]; omega)) ?_
  rintro ⟨ba, hba⟩
  have hxr : ∀ (R : Nat → Prop) w', ((baseA w).and ((matD x).past w.heap.size)).holds R w' → RowsI w' (some xa) 1 (shRows x.rows.l) := fun R w' h => by rw [← hxa]; exact rowsA_in h.2.1
  have hxb : ∀ (R : Nat → Prop) w', ((baseA w).and ((matD x).past w.heap.size)).holds R w' → RowsI w' (some ba) 1 (ints x.bias.xs) := fun R w' h => by rw [← hba]; exact (hx.biasOk (w := w) (hno.later h.1) h.2).rows
  refine Wp.loop (σ := Nat × Nat) 4 (fun ⟨o, m⟩ => [(6, .lp 1 0 0 0), (7, .lp 2 0 0 0), (9, .c x.bias.val), (10, .os 3 m), (56, .c x.rows.val), (57, .c (.int .i64 cnt)), (58, .c (.int .i64 o))]) (fun ⟨o, m⟩ => [(3, .rows (ints (linPre n cnt o (termsG n t.xs) a)) 1 3), (2, .box [.c (.int .i64 a.1), .c (.int .i64 a.2)] 68), (1, .box [.c (.int .i64 0), .c (.int .i64 0)] 68)]) (fun _ => (baseA w).and ((matD x).past w.heap.size))
    (fun ⟨o, m⟩ => o ≤ cnt ∧ m = 2 * o) (fun s => cnt - s.1) (0, 0) [(3, none)] (by decide) (fun s => ⟨rfl, rfl⟩) ⟨Nat.zero_le _, rfl⟩ ⟨rfl, ⟨rfl, rfl, rfl, rfl, rfl, ?_, rfl, trivial⟩, ⟨rfl, (by repeat (first | exact List.mem_cons_self | apply List.mem_cons_of_mem)), (by repeat (first | exact List.mem_cons_self | apply List.mem_cons_of_mem)), trivial⟩, fun _ _ h => h⟩ ?_
  · rw [← hxc]; rfl
  rintro ⟨o, m⟩ ⟨ho, hm⟩
  have hml := linPre_len n cnt (termsG n t.xs) a o
  by_cases hlo : o < cnt
  · have hlx : o < x.rows.l.length := by omega
    obtain ⟨_, hu, hbl, hbv⟩ := hx.row hlx
    have hsn := linPre_snoc n cnt o (termsG n t.xs) a
    have hbd := bias_bd nb cnt o
    have hrow := shRows_get hlx
    have hum := List.getElem_mem hlx
    have hul := hrl o hlo
    have hub := hrb o
    have hsu := hsums o hlo
    generalize x.rows.l[o] = u at *
    rw [← hu] at hul hub hsu
    refine Wp.know (p := ∃ a, u.base = some a) (fun ρ w' hw => holds_of_abs hw fun R h => (hx.rowsOk (w := w) (hno.later h.1) h.2 u hum).base (by omega)) ?_
    rintro ⟨ua, hua⟩
    have hur : ∀ (R : Nat → Prop) w', ((baseA w).and ((matD x).past w.heap.size)).holds R w' → RowsI w' (some ua) 1 (ints u.xs) := fun R w' h => by rw [← hua]; exact (hx.rowsOk (w := w) (hno.later h.1) h.2 u hum).rows
    have hul64 : u.xs.length ≤ 64 := by omega
    (repeat' ((conv => whnf) <;> first | (show idxK _ _ _ _ _; (first | refine idx_of xa o hxa rfl hlx ?_ | refine idx_of ba o hba rfl (by omega) ?_)) | (show roK _ _ _; (first | refine ro_row0 hxr _ _ hrow rfl ?_ | refine ro_intv hxb (j := o) (by omega) hbv ?_)) | (show drawK _ 28 _ _ _ _ _ _; refine draw_tree tabOk mixed [16] _ dtJP1 (by kernel_rfl) (by kernel_rfl) (by kernel_rfl) (List.Sublist.refl _) ?_) | (show drawK _ 31 _ _ _ _ _ _; refine draw_tree tabOk mixed [] _ dtJP2 (by kernel_rfl) (by kernel_rfl) (by kernel_rfl) (List.Sublist.refl _) ?_) | (show drawK _ _ _ _ _ _ _ _; refine draw_quiet tabOk mixed (by kernel_rfl) ?_) | (show Wp _ _ _ _ _ _ _; refine Wp.go tabOk rfl ?_) | (show @cmpK _ _ _; (first | refine cmpY ?_ | refine cmpN ?_ | (refine cmp_both ?_ ?_ <;> intro _))) | (show wrapK _ _ _; refine wrapA ?_) | (show leK _ _ _; refine leA ?_) | (show roomK _ _ _; refine roomA ?_) | (show ltK _ _ _; refine ltA ?_) | (show _ ∧ _; refine ⟨?_, ?_⟩) | (show keepK _ _ _ _ _; refine keepA ?_) | refine own_keep ?_ | refine ap_old ?_))
    all_goals (conv => whnf)
    refine Wp.loop (σ := Nat × Int × Int) 4 (fun ⟨j, lo, hi⟩ => [(6, .lp 1 0 0 0), (7, .lp 2 0 0 0), (9, .c x.bias.val), (10, .os 3 m), (56, .c x.rows.val), (57, .c (.int .i64 cnt)), (58, .c (.int .i64 o)), (13, .c (.int .i64 lo)), (14, .c (.int .i64 hi)), (71, .c u.val), (72, .c (.int .i64 u.xs.length)), (73, .c (.int .i64 j))]) (fun _ => [(3, .rows (ints (linPre n cnt o (termsG n t.xs) a)) 1 3), (2, .box [.c (.int .i64 a.1), .c (.int .i64 a.2)] 68), (1, .box [.c (.int .i64 0), .c (.int .i64 0)] 68)]) (fun _ => (baseA w).and ((matD x).past w.heap.size))
      (fun ⟨j, lo, hi⟩ => j ≤ u.xs.length ∧ lo = biasI n cnt o + sumG (gLo a) 0 (u.xs.take j) ∧ hi = biasI n cnt o + sumG (gHi a) 0 (u.xs.take j)) (fun s => u.xs.length - s.1) (0, biasI n cnt o, biasI n cnt o) [] (by decide) (fun s => ⟨rfl, rfl⟩) ⟨Nat.zero_le _, by simp [sumG], by simp [sumG]⟩ ⟨rfl, ⟨rfl, rfl, rfl, rfl, rfl, rfl, rfl, rfl, rfl, rfl, rfl, rfl, trivial⟩, ⟨(by repeat (first | exact List.mem_cons_self | apply List.mem_cons_of_mem)), (by repeat (first | exact List.mem_cons_self | apply List.mem_cons_of_mem)), (by repeat (first | exact List.mem_cons_self | apply List.mem_cons_of_mem)), trivial⟩, fun _ _ h => h⟩ ?_
    rintro ⟨j, lo, hi⟩ ⟨hj, hlv, hhv⟩
    by_cases hjl : j < u.xs.length
    · have s1 := sumG_snoc (gLo a) hjl
      have s2 := sumG_snoc (gHi a) hjl
      have hG1 : ∀ k v, v ∈ u.xs → -1099511627776 ≤ gLo a k v ∧ gLo a k v ≤ 1099511627776 := fun k v hv => by
        have q1 := mul_bd (A := 1048576) (B := 1048576) (hub v hv) ha1
        have q2 := mul_bd (A := 1048576) (B := 1048576) (hub v hv) hah
        unfold gLo; omega
      have hG2 : ∀ k v, v ∈ u.xs → -1099511627776 ≤ gHi a k v ∧ gHi a k v ≤ 1099511627776 := fun k v hv => by
        have q1 := mul_bd (A := 1048576) (B := 1048576) (hub v hv) ha1
        have q2 := mul_bd (A := 1048576) (B := 1048576) (hub v hv) hah
        unfold gHi; omega
      have b1 := sumG_bd40 (gLo a) (l := u.xs) (j := j) (by omega) hG1
      have b2 := sumG_bd40 (gHi a) (l := u.xs) (j := j) (by omega) hG2
      have hv : bd20 (u.xs.getD j 0) := getD_bd hub j
      have q1 := mul_bd (A := 1048576) (B := 1048576) hv ha1
      have q2 := mul_bd (A := 1048576) (B := 1048576) hv hah
      have e1 : gLo a j (u.xs.getD j 0) = min (u.xs.getD j 0 * a.1) (u.xs.getD j 0 * a.2) := rfl
      have e2 : gHi a j (u.xs.getD j 0) = max (u.xs.getD j 0 * a.1) (u.xs.getD j 0 * a.2) := rfl
      clear hG1 hG2 hsu hrl hsums hsn
      unfold bd20 at hbd
      (repeat' ((conv => whnf) <;> first | (show idxK _ _ _ _ _; refine idx_of ua j hua rfl hjl ?_) | (show roK _ _ _; refine ro_int hur (j := j) hjl ?_) | (show drawK _ 28 _ _ _ _ _ _; refine draw_tree tabOk mixed [16] _ dtJP1 (by kernel_rfl) (by kernel_rfl) (by kernel_rfl) (List.Sublist.refl _) ?_) | (show drawK _ 31 _ _ _ _ _ _; refine draw_tree tabOk mixed [] _ dtJP2 (by kernel_rfl) (by kernel_rfl) (by kernel_rfl) (List.Sublist.refl _) ?_) | (show drawK _ _ _ _ _ _ _ _; refine draw_quiet tabOk mixed (by kernel_rfl) ?_) | (show Wp _ _ _ _ _ _ _; refine Wp.go tabOk rfl ?_) | (show @cmpK _ _ _; (first | refine cmpY ?_ | refine cmpN ?_ | (refine cmp_both ?_ ?_ <;> intro _))) | (show wrapK _ _ _; refine wrapA ?_) | (show leK _ _ _; refine leA ?_) | (show roomK _ _ _; refine roomA ?_) | (show ltK _ _ _; refine ltA ?_) | (show _ ∧ _; refine ⟨?_, ?_⟩) | (show keepK _ _ _ _ _; refine keepA ?_) | refine own_keep ?_ | refine ap_old ?_))
      all_goals (conv => whnf)
      all_goals exact ⟨(j + 1, _, _), [], ⟨hjl, by rw [s1]; omega, by rw [s2]; omega⟩, by simp only; omega, rfl, ⟨rfl, rfl, rfl, rfl, rfl, rfl, rfl, rfl, rfl, rfl, rfl, rfl, trivial⟩, ⟨(by repeat (first | exact List.mem_cons_self | apply List.mem_cons_of_mem)), (by repeat (first | exact List.mem_cons_self | apply List.mem_cons_of_mem)), (by repeat (first | exact List.mem_cons_self | apply List.mem_cons_of_mem)), trivial⟩, fun _ _ h => h⟩
    · have hjz : j = u.xs.length := Nat.le_antisymm hj (Nat.not_lt.1 hjl)
      subst hjz
      rw [List.take_of_length_le (Nat.le_refl _), hsu _ (gLo_zero a), ← foldl_lo] at hlv
      rw [List.take_of_length_le (Nat.le_refl _), hsu _ (gHi_zero a), ← foldl_hi] at hhv
      (repeat' ((conv => whnf) <;> first | (show leK _ _ _; (refine le_of (by rw [ints_length, hml, hm]; exact Nat.le_refl _) ?_)) | (show roomK _ _ _; (refine room_of (by show (m + 2) * 8 ≤ 140737488355328; omega) ?_)) | (show drawK _ 28 _ _ _ _ _ _; refine draw_tree tabOk mixed [16] _ dtJP1 (by kernel_rfl) (by kernel_rfl) (by kernel_rfl) (List.Sublist.refl _) ?_) | (show drawK _ 31 _ _ _ _ _ _; refine draw_tree tabOk mixed [] _ dtJP2 (by kernel_rfl) (by kernel_rfl) (by kernel_rfl) (List.Sublist.refl _) ?_) | (show drawK _ _ _ _ _ _ _ _; refine draw_quiet tabOk mixed (by kernel_rfl) ?_) | (show Wp _ _ _ _ _ _ _; refine Wp.go tabOk rfl ?_) | (show @cmpK _ _ _; (first | refine cmpY ?_ | refine cmpN ?_ | (refine cmp_both ?_ ?_ <;> intro _))) | (show wrapK _ _ _; refine wrapA ?_) | (show leK _ _ _; refine leA ?_) | (show roomK _ _ _; refine roomA ?_) | (show ltK _ _ _; refine ltA ?_) | (show _ ∧ _; refine ⟨?_, ?_⟩) | (show keepK _ _ _ _ _; refine keepA ?_) | refine own_keep ?_ | refine ap_old ?_))
      all_goals (conv => whnf)
      exact ⟨(o + 1, m + 2), [(3, some 5)], ⟨hlo, by omega⟩, by simp only; omega, rfl, ⟨rfl, rfl, rfl, rfl, rfl, rfl, rfl, trivial⟩, ⟨by
        show (5, Ent.rows (ints (linPre n cnt (o + 1) (termsG n t.xs) a)) 1 3) ∈ _
        rw [hsn, ← hlv, ← hhv]; exact ints_two _ _ _ (by rw [hml, hm]), (by repeat (first | exact List.mem_cons_self | apply List.mem_cons_of_mem)), (by repeat (first | exact List.mem_cons_self | apply List.mem_cons_of_mem)), trivial⟩, fun _ _ h => h⟩
  · have hoz : o = cnt := Nat.le_antisymm ho (Nat.not_lt.1 hlo)
    subst hoz
    have hfit : ∀ x ∈ linPre n o o (termsG n t.xs) a, i64 x := fun x hx => by
      obtain ⟨q, hq, hx⟩ := List.mem_flatMap.1 hx
      rw [List.mem_range] at hq
      have g := lin_bd ⟨ha1, hah⟩ (l := termsG n t.xs q) (s := biasI n o q) (hTbf.2 q hq)
      have gf := hTbf.1 q hq
      have gb := bias_bd nb o q
      unfold bd20 at gb
      simp only [List.mem_cons, List.not_mem_nil, or_false] at hx
      unfold i64
      rcases hx with rfl | rfl <;> omega
    have hmL : m = (linPre n o o (termsG n t.xs) a).length := by omega
    subst hmL
    refine Wp.freezeN 3 w.heap.size (k := 1) (xs := ints (linPre n o o (termsG n t.xs) a)) (T := 3) (by repeat (first | exact List.mem_cons_self | apply List.mem_cons_of_mem)) (fun R w' h b hb => (h.1 b hb).1) (fun l1 hl1 => ?_)
    rw [ints_length] at hl1
    (repeat' ((conv => whnf) <;> first | (show callK _ 108 _ _ _ _ _; (refine call_pure (f := 108) Try.call108 (spanV (spanE (linPre n o o (termsG n t.xs) a))) (fun ρ w' hw => cover_any w' ⟨l1.base, l1.cap, linPre n o o (termsG n t.xs) a⟩ (holds_of_abs hw fun R h => ⟨rowsA_in h.2, hfit, hl1, by simp only; omega⟩) (by simp only; omega)) ?_)) | (show drawK _ 28 _ _ _ _ _ _; refine draw_tree tabOk mixed [16] _ dtJP1 (by kernel_rfl) (by kernel_rfl) (by kernel_rfl) (List.Sublist.refl _) ?_) | (show drawK _ 31 _ _ _ _ _ _; refine draw_tree tabOk mixed [] _ dtJP2 (by kernel_rfl) (by kernel_rfl) (by kernel_rfl) (List.Sublist.refl _) ?_) | (show drawK _ _ _ _ _ _ _ _; refine draw_quiet tabOk mixed (by kernel_rfl) ?_) | (show Wp _ _ _ _ _ _ _; refine Wp.go tabOk rfl ?_) | (show @cmpK _ _ _; (first | refine cmpY ?_ | refine cmpN ?_ | (refine cmp_both ?_ ?_ <;> intro _))) | (show wrapK _ _ _; refine wrapA ?_) | (show leK _ _ _; refine leA ?_) | (show roomK _ _ _; refine roomA ?_) | (show ltK _ _ _; refine ltA ?_) | (show _ ∧ _; refine ⟨?_, ?_⟩) | (show keepK _ _ _ _ _; refine keepA ?_) | refine own_keep ?_ | refine ap_old ?_))
    all_goals (conv => whnf)
    all_goals exact ends_of (fun _ _ h => h.1.1) (fun _ => rfl) rfl
end Go.Proofs.Ytdmkdogakbipbaa

/- JQ -/
namespace Go.Proofs.Ytdmkdogakbipbaa
open Go.SX Go.RowKit
theorem spanE_two {x y : Int} (h : x ≤ y) : spanE [x, y] = (x, y) := by
  have e1 : foldI min [x, y] = min x y := rfl
  have e2 : foldI max [x, y] = max x y := rfl
  unfold spanE
  rw [e1, e2, Int.min_eq_left h, Int.max_eq_right h]
theorem sp_mem {l : List Sp} {k : Nat} (h : k < l.length) : l.getD k (0, 0) ∈ l := by
  rw [List.getD_eq_getElem?_getD, List.getElem?_eq_getElem h]; exact List.getElem_mem h
theorem lin_no (w : World) {k : Int} (h : ¬ (k = 3 ∨ k = 4 ∨ k = 5)) : Calls Try.prog 85 #[.int .i64 k] w fun e w' => e = .returned (.bool false) ∧ Ext w w' := by
  have := linear_any w k
  rw [decide_eq_false h] at this
  exact this
set_option maxRecDepth 20000 in
set_option maxHeartbeats 4000000 in
theorem span_plain (w : World) (n : NodeV) (sv : ShapesV) (b2 : Option Addr) (c2 : Nat) (acc : List Sp) (hk : n.kind = 1 ∨ n.kind = 2 ∨ n.kind = 6 ∨ n.kind = 7 ∨ n.kind = 9) (hno : n.ok w) (nd : ∀ x ∈ n.data.xs, bd20 x) (nle : n.lo ≤ n.hi) (h2 : n.kind = 2 → 1 ≤ n.data.xs.length) (h7 : n.kind = 7 → n.data.xs.length = 1) (ha0 : 0 ≤ n.a) (hb0 : 0 ≤ n.b) (hacc : RowsI w b2 2 (spRows acc)) (hA : n.kind ≠ 1 → n.kind ≠ 2 → n.a.toNat < acc.length) (hB : n.kind = 6 → n.b.toNat < acc.length) (hbd : ∀ s ∈ acc, bd20 s.1 ∧ bd20 s.2 ∧ s.1 ≤ s.2) : Calls Try.prog 84 #[n.valA, sv.val, .slice b2 acc.length c2] w fun e w' => e = .returned (spanV (spanE (endsL n (acc.getD n.a.toNat (0, 0)) (acc.getD n.b.toNat (0, 0))))) ∧ Ext w w' := by
  have hlinC : ∀ w', Calls Try.prog 85 #[.int .i64 n.kind] w' fun e w'' => e = .returned (.bool false) ∧ Ext w' w'' := fun w' => lin_no w' (by omega)
  have hna : n.a = (n.a.toNat : Int) := (Int.toNat_of_nonneg ha0).symm
  have hnb : n.b = (n.b.toNat : Int) := (Int.toNat_of_nonneg hb0).symm
  unfold endsL
  rcases hk with hk | hk | hk | hk | hk
  · rw [if_pos hk, spanE_two nle]
    refine calls_of tab tabOk Try.func84 rfl rfl rfl [] (fun _ => ⟨none, 0⟩) [.agg [.c (.int .i64 n.kind), .c (.int .i64 n.a), .c (.int .i64 n.b), .c n.shape.val, .c (.int .i64 n.lo), .c (.int .i64 n.hi), .c (.int .i64 n.size), .c n.data.val, .c n.bias.val], .c sv.val, .c (.slice b2 acc.length c2)] [] (baseA w) 0 rfl rfl (by show 3 ≤ _; decide) (abs_base w) ?_
    (repeat' ((conv => whnf) <;> first | (show drawK _ 28 _ _ _ _ _ _; refine draw_tree tabOk mixed [16] _ dtJP1 (by kernel_rfl) (by kernel_rfl) (by kernel_rfl) (List.Sublist.refl _) ?_) | (show drawK _ 31 _ _ _ _ _ _; refine draw_tree tabOk mixed [] _ dtJP2 (by kernel_rfl) (by kernel_rfl) (by kernel_rfl) (List.Sublist.refl _) ?_) | (show drawK _ _ _ _ _ _ _ _; refine draw_quiet tabOk mixed (by kernel_rfl) ?_) | (show Wp _ _ _ _ _ _ _; refine Wp.go tabOk rfl ?_) | (show @cmpK _ _ _; (first | refine cmpY ?_ | refine cmpN ?_ | (refine cmp_both ?_ ?_ <;> intro _))) | (show wrapK _ _ _; refine wrapA ?_) | (show leK _ _ _; refine leA ?_) | (show roomK _ _ _; refine roomA ?_) | (show ltK _ _ _; refine ltA ?_) | (show _ ∧ _; refine ⟨?_, ?_⟩) | (show keepK _ _ _ _ _; refine keepA ?_) | refine own_keep ?_ | refine ap_old ?_))
    all_goals (conv => whnf)
    all_goals exact ends_of (fun _ _ h => h) (fun _ => rfl) rfl
  · rw [if_neg (by omega), if_pos hk]
    refine calls_of tab tabOk Try.func84 rfl rfl rfl [] (fun _ => ⟨none, 0⟩) [.agg [.c (.int .i64 n.kind), .c (.int .i64 n.a), .c (.int .i64 n.b), .c n.shape.val, .c (.int .i64 n.lo), .c (.int .i64 n.hi), .c (.int .i64 n.size), .c n.data.val, .c n.bias.val], .c sv.val, .c (.slice b2 acc.length c2)] [] (baseA w) 0 rfl rfl (by show 3 ≤ _; decide) (abs_base w) ?_
    (repeat' ((conv => whnf) <;> first | (show callK _ 108 _ _ _ _ _; refine call_pure (f := 108) Try.call108 (spanV (spanE n.data.xs)) (fun ρ w' hw => cover_any w' n.data (holds_of_abs hw fun R h => hno.data.later h) (h2 hk)) ?_) | (show drawK _ 28 _ _ _ _ _ _; refine draw_tree tabOk mixed [16] _ dtJP1 (by kernel_rfl) (by kernel_rfl) (by kernel_rfl) (List.Sublist.refl _) ?_) | (show drawK _ 31 _ _ _ _ _ _; refine draw_tree tabOk mixed [] _ dtJP2 (by kernel_rfl) (by kernel_rfl) (by kernel_rfl) (List.Sublist.refl _) ?_) | (show drawK _ _ _ _ _ _ _ _; refine draw_quiet tabOk mixed (by kernel_rfl) ?_) | (show Wp _ _ _ _ _ _ _; refine Wp.go tabOk rfl ?_) | (show @cmpK _ _ _; (first | refine cmpY ?_ | refine cmpN ?_ | (refine cmp_both ?_ ?_ <;> intro _))) | (show wrapK _ _ _; refine wrapA ?_) | (show leK _ _ _; refine leA ?_) | (show roomK _ _ _; refine roomA ?_) | (show ltK _ _ _; refine ltA ?_) | (show _ ∧ _; refine ⟨?_, ?_⟩) | (show keepK _ _ _ _ _; refine keepA ?_) | refine own_keep ?_ | refine ap_old ?_))
    all_goals (conv => whnf)
    all_goals exact ends_of (fun _ _ h => h) (fun _ => rfl) rfl
  · rw [if_neg (by omega), if_neg (by omega), if_pos hk]
    have hlt := hA (by omega) (by omega)
    have hltB := hB hk
    obtain ⟨a2, ha2⟩ : ∃ a, b2 = some a := base_some (j := n.a.toNat) hacc (by rw [spRows_length]; exact hlt)
    have hrowA := spRows_getD hlt
    have hrowB := spRows_getD hltB
    have hmA := hbd _ (sp_mem hlt)
    have hmB := hbd _ (sp_mem hltB)
    generalize acc.getD n.a.toNat (0, 0) = a at *
    generalize acc.getD n.b.toNat (0, 0) = b at *
    obtain ⟨p1, p2, p3⟩ := hmA
    obtain ⟨q1, q2, q3⟩ := hmB
    rw [spanE_two (by omega)]
    unfold bd20 at p1 p2 q1 q2
    refine calls_of tab tabOk Try.func84 rfl rfl rfl [] (fun _ => ⟨none, 0⟩) [.agg [.c (.int .i64 n.kind), .c (.int .i64 n.a), .c (.int .i64 n.b), .c n.shape.val, .c (.int .i64 n.lo), .c (.int .i64 n.hi), .c (.int .i64 n.size), .c n.data.val, .c n.bias.val], .c sv.val, .c (.slice b2 acc.length c2)] [] (baseA w) 0 rfl rfl (by show 3 ≤ _; decide) (abs_base w) ?_
    (repeat' ((conv => whnf) <;> first | (show callK _ 85 _ _ _ _ _; refine call_pure (f := 85) Try.call85 (.bool false) (fun ρ w' hw => hlinC w') ?_) | (show idxK _ _ _ _ _; (first | refine idx_of a2 n.a.toNat ha2 hna hlt ?_ | refine idx_of a2 n.b.toNat ha2 hnb hltB ?_)) | (show roAggK _ _ _ _; (first | refine roAgg_row (fun R w' h => by rw [← ha2]; exact rows_base h hacc) _ hrowA rfl ?_ | refine roAgg_row (fun R w' h => by rw [← ha2]; exact rows_base h hacc) _ hrowB rfl ?_)) | (show drawK _ 28 _ _ _ _ _ _; refine draw_tree tabOk mixed [16] _ dtJP1 (by kernel_rfl) (by kernel_rfl) (by kernel_rfl) (List.Sublist.refl _) ?_) | (show drawK _ 31 _ _ _ _ _ _; refine draw_tree tabOk mixed [] _ dtJP2 (by kernel_rfl) (by kernel_rfl) (by kernel_rfl) (List.Sublist.refl _) ?_) | (show drawK _ _ _ _ _ _ _ _; refine draw_quiet tabOk mixed (by kernel_rfl) ?_) | (show Wp _ _ _ _ _ _ _; refine Wp.go tabOk rfl ?_) | (show @cmpK _ _ _; (first | refine cmpY ?_ | refine cmpN ?_ | (refine cmp_both ?_ ?_ <;> intro _))) | (show wrapK _ _ _; refine wrapA ?_) | (show leK _ _ _; refine leA ?_) | (show roomK _ _ _; refine roomA ?_) | (show ltK _ _ _; refine ltA ?_) | (show _ ∧ _; refine ⟨?_, ?_⟩) | (show keepK _ _ _ _ _; refine keepA ?_) | refine own_keep ?_ | refine ap_old ?_))
    all_goals (conv => whnf)
    all_goals exact ends_of (fun _ _ h => h) (fun _ => rfl) rfl
  · rw [if_neg (by omega), if_neg (by omega), if_neg (by omega), if_pos hk]
    have hlt := hA (by omega) (by omega)
    have hd7 := h7 hk
    have hd := hno.data
    obtain ⟨a2, ha2⟩ : ∃ a, b2 = some a := base_some (j := n.a.toNat) hacc (by rw [spRows_length]; exact hlt)
    obtain ⟨ua, hua⟩ := hd.base (by omega)
    have hur : ∀ (R : Nat → Prop) w', (baseA w).holds R w' → RowsI w' (some ua) 1 (ints n.data.xs) := fun R w' h => by rw [← hua]; exact rows_base h hd.rows
    have hrowA := spRows_getD hlt
    have hmA := hbd _ (sp_mem hlt)
    generalize acc.getD n.a.toNat (0, 0) = a at *
    obtain ⟨p1, p2, p3⟩ := hmA
    have g0 := getD_bd nd 0
    have m1 := mul_bd (A := 1048576) (B := 1048576) g0 p1
    have m2 := mul_bd (A := 1048576) (B := 1048576) g0 p2
    generalize hd0 : n.data.xs.getD 0 0 = d0 at *
    have hfit : ∀ x ∈ [d0 * a.1, d0 * a.2], i64 x := fun x hx => by
      simp only [List.mem_cons, List.not_mem_nil, or_false] at hx
      unfold i64
      rcases hx with rfl | rfl <;> omega
    refine calls_of tab tabOk Try.func84 rfl rfl rfl [] (fun _ => ⟨none, 0⟩) [.agg [.c (.int .i64 n.kind), .c (.int .i64 n.a), .c (.int .i64 n.b), .c n.shape.val, .c (.int .i64 n.lo), .c (.int .i64 n.hi), .c (.int .i64 n.size), .c n.data.val, .c n.bias.val], .c sv.val, .c (.slice b2 acc.length c2)] [] (baseA w) 0 rfl rfl (by show 3 ≤ _; decide) (abs_base w) ?_
    (repeat' ((conv => whnf) <;> first | (show callK _ 85 _ _ _ _ _; refine call_pure (f := 85) Try.call85 (.bool false) (fun ρ w' hw => hlinC w') ?_) | (show idxK _ _ _ _ _; (first | refine idx_of a2 n.a.toNat ha2 hna hlt ?_ | refine idx_of ua 0 hua rfl (by omega) ?_)) | (show roAggK _ _ _ _; (refine roAgg_row (fun R w' h => by rw [← ha2]; exact rows_base h hacc) _ hrowA rfl ?_)) | (show roK _ _ _; refine ro_intv hur (j := 0) (by omega) hd0 ?_) | (show ownK _ _ _ _ _; refine freeze_intsI (w0 := w) [d0 * a.1, d0 * a.2] (fun R w' h => h) rfl rfl hfit (by simp) (fun u hu hus => ?_)) | (show callK _ 108 _ _ _ _ _; (refine call_pure (f := 108) Try.call108 (spanV (spanE [d0 * a.1, d0 * a.2])) (fun ρ w' hw => hu ▸ cover_any w' u (holds_of_abs hw fun R h => intsA_ok hus ((intsA u).mono h.2 (fun b hb => hb.1))) (by rw [hu]; simp)) ?_)) | (show drawK _ 28 _ _ _ _ _ _; refine draw_tree tabOk mixed [16] _ dtJP1 (by kernel_rfl) (by kernel_rfl) (by kernel_rfl) (List.Sublist.refl _) ?_) | (show drawK _ 31 _ _ _ _ _ _; refine draw_tree tabOk mixed [] _ dtJP2 (by kernel_rfl) (by kernel_rfl) (by kernel_rfl) (List.Sublist.refl _) ?_) | (show drawK _ _ _ _ _ _ _ _; refine draw_quiet tabOk mixed (by kernel_rfl) ?_) | (show Wp _ _ _ _ _ _ _; refine Wp.go tabOk rfl ?_) | (show @cmpK _ _ _; (first | refine cmpY ?_ | refine cmpN ?_ | (refine cmp_both ?_ ?_ <;> intro _))) | (show wrapK _ _ _; refine wrapA ?_) | (show leK _ _ _; refine leA ?_) | (show roomK _ _ _; refine roomA ?_) | (show ltK _ _ _; refine ltA ?_) | (show _ ∧ _; refine ⟨?_, ?_⟩) | (show keepK _ _ _ _ _; refine keepA ?_) | refine own_keep ?_ | refine ap_old ?_))
    all_goals (conv => whnf)
    all_goals exact ends_of (fun _ _ h => h.1) (fun _ => rfl) rfl
  · rw [if_neg (by omega), if_neg (by omega), if_neg (by omega), if_neg (by omega), if_neg (by omega)]
    have hlt := hA (by omega) (by omega)
    obtain ⟨a2, ha2⟩ : ∃ a, b2 = some a := base_some (j := n.a.toNat) hacc (by rw [spRows_length]; exact hlt)
    have hrowA := spRows_getD hlt
    have hmA := hbd _ (sp_mem hlt)
    generalize acc.getD n.a.toNat (0, 0) = a at *
    rw [spanE_two hmA.2.2]
    refine calls_of tab tabOk Try.func84 rfl rfl rfl [] (fun _ => ⟨none, 0⟩) [.agg [.c (.int .i64 n.kind), .c (.int .i64 n.a), .c (.int .i64 n.b), .c n.shape.val, .c (.int .i64 n.lo), .c (.int .i64 n.hi), .c (.int .i64 n.size), .c n.data.val, .c n.bias.val], .c sv.val, .c (.slice b2 acc.length c2)] [] (baseA w) 0 rfl rfl (by show 3 ≤ _; decide) (abs_base w) ?_
    (repeat' ((conv => whnf) <;> first | (show callK _ 85 _ _ _ _ _; refine call_pure (f := 85) Try.call85 (.bool false) (fun ρ w' hw => hlinC w') ?_) | (show idxK _ _ _ _ _; refine idx_of a2 n.a.toNat ha2 hna hlt ?_) | (show roAggK _ _ _ _; (refine roAgg_row (fun R w' h => by rw [← ha2]; exact rows_base h hacc) _ hrowA rfl ?_)) | (show drawK _ 28 _ _ _ _ _ _; refine draw_tree tabOk mixed [16] _ dtJP1 (by kernel_rfl) (by kernel_rfl) (by kernel_rfl) (List.Sublist.refl _) ?_) | (show drawK _ 31 _ _ _ _ _ _; refine draw_tree tabOk mixed [] _ dtJP2 (by kernel_rfl) (by kernel_rfl) (by kernel_rfl) (List.Sublist.refl _) ?_) | (show drawK _ _ _ _ _ _ _ _; refine draw_quiet tabOk mixed (by kernel_rfl) ?_) | (show Wp _ _ _ _ _ _ _; refine Wp.go tabOk rfl ?_) | (show @cmpK _ _ _; (first | refine cmpY ?_ | refine cmpN ?_ | (refine cmp_both ?_ ?_ <;> intro _))) | (show wrapK _ _ _; refine wrapA ?_) | (show leK _ _ _; refine leA ?_) | (show roomK _ _ _; refine roomA ?_) | (show ltK _ _ _; refine ltA ?_) | (show _ ∧ _; refine ⟨?_, ?_⟩) | (show keepK _ _ _ _ _; refine keepA ?_) | refine own_keep ?_ | refine ap_old ?_))
    all_goals (conv => whnf)
    all_goals exact ends_of (fun _ _ h => h) (fun _ => rfl) rfl
end Go.Proofs.Ytdmkdogakbipbaa

/- JV -/
namespace Go.Proofs.Ytdmkdogakbipbaa
open Go.SX Go.RowKit
theorem gNum_at {av : List Int} {r : List Int} {j : Nat} : gNum av j (r.getD j 0) = r.getD j 0 * av.getD j 0 := rfl
set_option maxRecDepth 20000 in
set_option maxHeartbeats 4000000 in
theorem values_lin (w : World) (n : NodeV) (sh : List (List Int)) (s : List Int) (sv : ShapesV) (hs : sv.ok w) (t : IntsV) (cnt : Nat) (h : PlaceIn n sh s t.xs cnt) (hl : isLin n) (hno : n.ok w) (ht : sv.l[n.a.toNat]? = some t) (ha0 : 0 ≤ n.a) (kb : Option Addr) (kc : Nat) (kn : List IntsV) (hkr : RowsI w kb 1 (shRows kn)) (a : IntsV) (hka : kn[n.a.toNat]? = some a) (hao : a.ok w) (hab : ∀ x ∈ a.xs, bd20 x) (hal : (a.xs.length : Int) = entries t.xs) : Calls Try.prog 55 #[n.valA, sv.val, .slice kb kn.length kc] w (EndsPost w n (numsLin n cnt cnt (termsG n t.xs) a.xs)) := by
  obtain ⟨htl, hte⟩ := List.getElem?_eq_some_iff.1 ht
  obtain ⟨hkl, hke⟩ := List.getElem?_eq_some_iff.1 hka
  have htm : t ∈ sv.l := hte ▸ List.getElem_mem htl
  have hto := hs.each t htm
  obtain ⟨ka, hkb⟩ : ∃ a, kb = some a := base_some (j := n.a.toNat) hkr (by rw [shRows_length]; exact hkl)
  obtain ⟨sa, hsa⟩ : ∃ a, sv.base = some a := base_some (j := n.a.toNat) hs.rows (by rw [shRows_length]; exact htl)
  have hrowK : (shRows kn)[n.a.toNat]? = some [a.val] := by rw [shRows_get hkl, hke]
  have hrowT : (shRows sv.l)[n.a.toNat]? = some [t.val] := by rw [shRows_get htl, hte]
  have hna : n.a = (n.a.toNat : Int) := (Int.toNat_of_nonneg ha0).symm
  have hfew := h.few
  have hsums : ∀ o, o < cnt → ∀ g : Nat → Int → Int, (∀ k, g k 0 = 0) → sumG g 0 (matRow n t.xs o) = sumT g (termsG n t.xs o) := fun o ho g hg => mat_sum h hl ho g hg
  have hrl : ∀ o, o < cnt → (matRow n t.xs o).length = (entries t.xs).toNat := fun o ho => mat_len h ho
  have hrb : ∀ o, ∀ x ∈ matRow n t.xs o, bd20 x := fun o => mat_bd h hl o
  obtain ⟨nd, nb, _, _, _⟩ := near_in h.node.near
  have hsz := (entries_bd t.xs).2
  have hmat : ∀ w', n.ok w' → t.ok w' → Calls Try.prog 66 #[n.valA, t.val] w' (MatPost w' n t.xs cnt) := fun w' h1 h2 => mat_all w' n sh s t cnt h hl h1 h2
  have hpos : 1 ≤ (entries t.xs).toNat := by have := (h.first hl).2; omega
  have hkind : n.kind = 3 ∨ n.kind = 4 ∨ n.kind = 5 := hl
  have hTbf : (∀ o, o < cnt → (termsG n t.xs o).length ≤ 64) ∧ ∀ o, o < cnt → ∀ s ∈ termsG n t.xs o, bd20 s.1 := by
    obtain ⟨F, P0, hL⟩ := h.lin hl
    exact ⟨(hL.terms w hto hno).few, (hL.terms w hto hno).bd⟩
  obtain ⟨va, hva⟩ := hao.base (by omega)
  have hvr : ∀ (R : Nat → Prop) w', (baseA w).holds R w' → RowsI w' (some va) 1 (ints a.xs) := fun R w' h => by rw [← hva]; exact rows_base h hao.rows
  clear hl
  have hlinC : ∀ w', Calls Try.prog 85 #[.int .i64 n.kind] w' fun e w'' => e = .returned (.bool true) ∧ Ext w' w'' := fun w' => by
    have := linear_any w' n.kind
    rw [decide_eq_true hkind] at this
    exact this
  refine calls_of tab tabOk Try.func55 rfl rfl rfl [] (fun _ => ⟨none, 0⟩) [.agg [.c (.int .i64 n.kind), .c (.int .i64 n.a), .c (.int .i64 n.b), .c n.shape.val, .c (.int .i64 n.lo), .c (.int .i64 n.hi), .c (.int .i64 n.size), .c n.data.val, .c n.bias.val], .c sv.val, .c (.slice kb kn.length kc)] [] (baseA w) 0 rfl rfl (by show 3 ≤ _; decide) (abs_base w) ?_
  (repeat' ((conv => whnf) <;> first | (show callK _ 85 _ _ _ _ _; refine call_pure (f := 85) Try.call85 (.bool true) (fun ρ w' hw => hlinC w') ?_) | (show idxK _ _ _ _ _; (first | refine idx_of ka n.a.toNat hkb hna hkl ?_ | refine idx_of sa n.a.toNat hsa hna htl ?_)) | (show roK _ _ _; (first | refine ro_row0 (fun R w' h => by rw [← hkb]; exact rows_base h hkr) _ _ hrowK rfl ?_ | refine ro_row0 (fun R w' h => by rw [← hsa]; exact rows_base h hs.rows) _ _ hrowT rfl ?_)) | (show callK _ 66 _ _ _ _ _; refine call_mat (f := 66) n t.xs cnt Try.call66 (fun ρ w' hw => hmat w' (holds_of_abs hw fun R h => hno.later h) (holds_of_abs hw fun R h => hto.later h)) (fun x hx => ?_)) | (show drawK _ 7 _ _ _ _ _ _; refine draw_tree tabOk mixed [] _ dtJP0 (by kernel_rfl) (by kernel_rfl) (by kernel_rfl) (List.Sublist.refl _) ?_) | (show drawK _ _ _ _ _ _ _ _; refine draw_quiet tabOk mixed (by kernel_rfl) ?_) | (show Wp _ _ _ _ _ _ _; refine Wp.go tabOk rfl ?_) | (show @cmpK _ _ _; (first | refine cmpY ?_ | refine cmpN ?_ | (refine cmp_both ?_ ?_ <;> intro _))) | (show wrapK _ _ _; refine wrapA ?_) | (show leK _ _ _; refine leA ?_) | (show roomK _ _ _; refine roomA ?_) | (show ltK _ _ _; refine ltA ?_) | (show _ ∧ _; refine ⟨?_, ?_⟩) | (show keepK _ _ _ _ _; refine keepA ?_) | refine own_keep ?_ | refine ap_old ?_))
  all_goals (conv => whnf)
  have hxc := hx.count
  refine Wp.know (p := ∃ a, x.rows.base = some a) (fun ρ w' hw => holds_of_abs hw fun R h => base_some (j := 0) (rowsA_in h.2.1) (by rw [shRows_length]; omega)) ?_
  rintro ⟨xa, hxa⟩
  refine Wp.know (p := ∃ a, x.bias.base = some a) (fun ρ w' hw => holds_of_abs hw fun R h => (hx.biasOk (w := w) (hno.later h.1) h.2).base (by rw [hx.bias]; simp [matBias]; omega)) ?_
  rintro ⟨ba, hba⟩
  have hxr : ∀ (R : Nat → Prop) w', ((baseA w).and ((matD x).past w.heap.size)).holds R w' → RowsI w' (some xa) 1 (shRows x.rows.l) := fun R w' h => by rw [← hxa]; exact rowsA_in h.2.1
  have hxb : ∀ (R : Nat → Prop) w', ((baseA w).and ((matD x).past w.heap.size)).holds R w' → RowsI w' (some ba) 1 (ints x.bias.xs) := fun R w' h => by rw [← hba]; exact (hx.biasOk (w := w) (hno.later h.1) h.2).rows
  refine Wp.loop (σ := Nat) 2 (fun o => [(7, .c a.val), (8, .os 1 o), (10, .c x.bias.val), (42, .c x.rows.val), (43, .c (.int .i64 cnt)), (44, .c (.int .i64 o))]) (fun o => [(1, .rows (ints (numsLin n cnt o (termsG n t.xs) a.xs)) 1 3)]) (fun _ => (baseA w).and ((matD x).past w.heap.size))
    (fun o => o ≤ cnt) (fun o => cnt - o) 0 [(1, none)] (by decide) (fun s => ⟨rfl, rfl⟩) (Nat.zero_le _) ⟨rfl, ⟨rfl, rfl, rfl, rfl, ?_, rfl, trivial⟩, ⟨rfl, trivial⟩, fun _ _ h => h⟩ ?_
  · rw [← hxc]; rfl
  rintro o ho
  have hlen : (numsLin n cnt o (termsG n t.xs) a.xs).length = o := by simp [numsLin]
  by_cases hlo : o < cnt
  · have hlx : o < x.rows.l.length := by omega
    obtain ⟨_, hu, hbl, hbv⟩ := hx.row hlx
    have hsn : numsLin n cnt (o + 1) (termsG n t.xs) a.xs = numsLin n cnt o (termsG n t.xs) a.xs ++ [(termsG n t.xs o).foldl (fNum a.xs) (biasI n cnt o)] := by unfold numsLin; rw [List.range_succ, List.map_append]; rfl
    have hbd := bias_bd nb cnt o
    have hrow := shRows_get hlx
    have hum := List.getElem_mem hlx
    have hul := hrl o hlo
    have hub := hrb o
    have hsu := hsums o hlo
    generalize x.rows.l[o] = u at *
    rw [← hu] at hul hub hsu
    refine Wp.know (p := ∃ a, u.base = some a) (fun ρ w' hw => holds_of_abs hw fun R h => (hx.rowsOk (w := w) (hno.later h.1) h.2 u hum).base (by omega)) ?_
    rintro ⟨ua, hua⟩
    have hur : ∀ (R : Nat → Prop) w', ((baseA w).and ((matD x).past w.heap.size)).holds R w' → RowsI w' (some ua) 1 (ints u.xs) := fun R w' h => by rw [← hua]; exact (hx.rowsOk (w := w) (hno.later h.1) h.2 u hum).rows
    have hul64 : u.xs.length ≤ 64 := by omega
    have hula : u.xs.length = a.xs.length := by omega
    (repeat' ((conv => whnf) <;> first | (show idxK _ _ _ _ _; (first | refine idx_of xa o hxa rfl hlx ?_ | refine idx_of ba o hba rfl (by omega) ?_)) | (show roK _ _ _; (first | refine ro_row0 hxr _ _ hrow rfl ?_ | refine ro_intv hxb (j := o) (by omega) hbv ?_)) | (show drawK _ _ _ _ _ _ _ _; refine draw_quiet tabOk mixed (by kernel_rfl) ?_) | (show Wp _ _ _ _ _ _ _; refine Wp.go tabOk rfl ?_) | (show @cmpK _ _ _; (first | refine cmpY ?_ | refine cmpN ?_ | (refine cmp_both ?_ ?_ <;> intro _))) | (show wrapK _ _ _; refine wrapA ?_) | (show leK _ _ _; refine leA ?_) | (show roomK _ _ _; refine roomA ?_) | (show ltK _ _ _; refine ltA ?_) | (show _ ∧ _; refine ⟨?_, ?_⟩) | (show keepK _ _ _ _ _; refine keepA ?_) | refine own_keep ?_ | refine ap_old ?_))
    all_goals (conv => whnf)
    refine Wp.loop (σ := Nat × Int) 2 (fun ⟨j, v⟩ => [(7, .c a.val), (8, .os 1 o), (10, .c x.bias.val), (42, .c x.rows.val), (43, .c (.int .i64 cnt)), (44, .c (.int .i64 o)), (13, .c (.int .i64 v)), (53, .c u.val), (54, .c (.int .i64 u.xs.length)), (55, .c (.int .i64 j))]) (fun _ => [(1, .rows (ints (numsLin n cnt o (termsG n t.xs) a.xs)) 1 3)]) (fun _ => (baseA w).and ((matD x).past w.heap.size))
      (fun ⟨j, v⟩ => j ≤ u.xs.length ∧ v = biasI n cnt o + sumG (gNum a.xs) 0 (u.xs.take j)) (fun s => u.xs.length - s.1) (0, biasI n cnt o) [] (by decide) (fun s => ⟨rfl, rfl⟩) ⟨Nat.zero_le _, by simp [sumG]⟩ ⟨rfl, ⟨rfl, rfl, rfl, rfl, rfl, rfl, rfl, rfl, rfl, rfl, trivial⟩, ⟨(by repeat (first | exact List.mem_cons_self | apply List.mem_cons_of_mem)), trivial⟩, fun _ _ h => h⟩ ?_
    rintro ⟨j, v⟩ ⟨hj, hvv⟩
    by_cases hjl : j < u.xs.length
    · have s1 := sumG_snoc (gNum a.xs) hjl
      have hG1 : ∀ k z, z ∈ u.xs → -1099511627776 ≤ gNum a.xs k z ∧ gNum a.xs k z ≤ 1099511627776 := fun k z hz => mul_bd (A := 1048576) (B := 1048576) (hub z hz) (getD_bd hab k)
      have b1 := sumG_bd40 (gNum a.xs) (l := u.xs) (j := j) (by omega) hG1
      have hv : bd20 (u.xs.getD j 0) := getD_bd hub j
      have hv2 : bd20 (a.xs.getD j 0) := getD_bd hab j
      have q1 := mul_bd (A := 1048576) (B := 1048576) hv hv2
      have e1 := gNum_at (av := a.xs) (r := u.xs) (j := j)
      clear hG1 hsu hrl hsums hsn
      unfold bd20 at hbd
      (repeat' ((conv => whnf) <;> first | (show idxK _ _ _ _ _; (first | refine idx_of ua j hua rfl hjl ?_ | refine idx_of va j hva rfl (by omega) ?_)) | (show roK _ _ _; (first | refine ro_int hur (j := j) hjl ?_ | refine ro_int (fun R w' h => hvr R w' h.1) (j := j) (by omega) ?_)) | (show drawK _ _ _ _ _ _ _ _; refine draw_quiet tabOk mixed (by kernel_rfl) ?_) | (show Wp _ _ _ _ _ _ _; refine Wp.go tabOk rfl ?_) | (show @cmpK _ _ _; (first | refine cmpY ?_ | refine cmpN ?_ | (refine cmp_both ?_ ?_ <;> intro _))) | (show wrapK _ _ _; refine wrapA ?_) | (show leK _ _ _; refine leA ?_) | (show roomK _ _ _; refine roomA ?_) | (show ltK _ _ _; refine ltA ?_) | (show _ ∧ _; refine ⟨?_, ?_⟩) | (show keepK _ _ _ _ _; refine keepA ?_) | refine own_keep ?_ | refine ap_old ?_))
      all_goals (conv => whnf)
      all_goals exact ⟨(j + 1, _), [], ⟨hjl, by rw [s1]; omega⟩, by simp only; omega, rfl, ⟨rfl, rfl, rfl, rfl, rfl, rfl, rfl, rfl, rfl, rfl, trivial⟩, ⟨(by repeat (first | exact List.mem_cons_self | apply List.mem_cons_of_mem)), trivial⟩, fun _ _ h => h⟩
    · have hjz : j = u.xs.length := Nat.le_antisymm hj (Nat.not_lt.1 hjl)
      subst hjz
      rw [List.take_of_length_le (Nat.le_refl _), hsu _ (gNum_zero a.xs), ← foldl_num] at hvv
      (repeat' ((conv => whnf) <;> first | (show leK _ _ _; (refine le_of (by rw [ints_length, hlen]; exact Nat.le_refl _) ?_)) | (show roomK _ _ _; (refine room_of (by show (o + 1) * 8 ≤ 140737488355328; omega) ?_)) | (show drawK _ _ _ _ _ _ _ _; refine draw_quiet tabOk mixed (by kernel_rfl) ?_) | (show Wp _ _ _ _ _ _ _; refine Wp.go tabOk rfl ?_) | (show @cmpK _ _ _; (first | refine cmpY ?_ | refine cmpN ?_ | (refine cmp_both ?_ ?_ <;> intro _))) | (show wrapK _ _ _; refine wrapA ?_) | (show leK _ _ _; refine leA ?_) | (show roomK _ _ _; refine roomA ?_) | (show ltK _ _ _; refine ltA ?_) | (show _ ∧ _; refine ⟨?_, ?_⟩) | (show keepK _ _ _ _ _; refine keepA ?_) | refine own_keep ?_ | refine ap_old ?_))
      all_goals (conv => whnf)
      exact ⟨o + 1, [(1, some 3)], hlo, by omega, rfl, ⟨rfl, rfl, rfl, rfl, rfl, rfl, trivial⟩, ⟨by
        show (3, Ent.rows (ints (numsLin n cnt (o + 1) (termsG n t.xs) a.xs)) 1 3) ∈ _
        rw [hsn, ← hvv]; exact ints_snocM _ _ hlen.symm, trivial⟩, fun _ _ h => h⟩
  · have hoz : o = cnt := Nat.le_antisymm ho (Nat.not_lt.1 hlo)
    subst hoz
    (repeat' ((conv => whnf) <;> first | (show drawK _ _ _ _ _ _ _ _; refine draw_quiet tabOk mixed (by kernel_rfl) ?_) | (show Wp _ _ _ _ _ _ _; refine Wp.go tabOk rfl ?_) | (show @cmpK _ _ _; (first | refine cmpY ?_ | refine cmpN ?_ | (refine cmp_both ?_ ?_ <;> intro _))) | (show wrapK _ _ _; refine wrapA ?_) | (show leK _ _ _; refine leA ?_) | (show roomK _ _ _; refine roomA ?_) | (show ltK _ _ _; refine ltA ?_) | (show _ ∧ _; refine ⟨?_, ?_⟩) | (show keepK _ _ _ _ _; refine keepA ?_) | refine own_keep ?_ | refine ap_old ?_))
    all_goals (conv => whnf)
    refine eends_new (B := ⟨w, []⟩) (S := (baseA w).and ((matD x).past w.heap.size)) (fun _ _ h => h.1) rfl (by repeat (first | exact List.mem_cons_self | apply List.mem_cons_of_mem)) hlen.symm (fun z hz => ?_) (by omega)
    obtain ⟨q, hq, rfl⟩ := List.mem_map.1 hz
    rw [List.mem_range] at hq
    have g := num_bd hab (l := termsG n t.xs q) (s := biasI n o q) (hTbf.2 q hq)
    have gf := hTbf.1 q hq
    have gb := bias_bd nb o q
    unfold bd20 at gb
    unfold i64
    omega
end Go.Proofs.Ytdmkdogakbipbaa

