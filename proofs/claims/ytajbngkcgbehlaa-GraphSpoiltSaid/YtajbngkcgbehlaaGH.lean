import Derived.Test.YtajbngkcgbehlaaGG
namespace Go.Proofs.Ytajbngkcgbehlaa
open Go.SX Go.RowKit
theorem i64_of_few {m : Nat} (h : m ≤ 1000000) : -9223372036854775808 ≤ (m : Int) ∧ (m : Int) ≤ 9223372036854775807 := by omega
set_option maxRecDepth 20000 in
set_option maxHeartbeats 2000000 in
theorem dense_m (w : World) (n : NodeV) (hn : n.ok w) (at_ : Int) (sv : ShapesV) (hs : sv.ok w) (i : Nat) (s : IntsV) (hi : sv.l[i]? = some s) (ha : n.a = i) (hbi : n.bias.xs.length ≤ 64) :
    Calls Try.prog 87 #[nodeVal n at_ sv.val] w (ShapePost w n sv.l (if (n.data.xs.length : Int) = n.bias.xs.length * entries s.xs then some [(n.bias.xs.length : Int)] else none)) := by
  have hso := hs.each s (List.mem_of_getElem? hi)
  have hm : 0 ≤ (n.bias.xs.length : Int) * entries s.xs ∧ (n.bias.xs.length : Int) * entries s.xs ≤ 4096 := by
    have h1 := entries_bd s.xs
    have h2 : (n.bias.xs.length : Int) * entries s.xs ≤ 64 * 64 := Int.mul_le_mul (by omega) h1.2 h1.1 (by omega)
    have h3 : 0 ≤ (n.bias.xs.length : Int) * entries s.xs := Int.mul_nonneg (by omega) h1.1
    omega
  refine calls_of tab tabOk Try.func87 rfl rfl rfl [] (fun _ => ⟨none, 0⟩) [.agg [.c (.int .i64 n.kind), .c (.int .i64 n.a), .c (.int .i64 n.b), .c n.shape.val, .c (.int .i64 n.lo), .c (.int .i64 n.hi), .c (.int .i64 n.size), .c n.data.val, .c n.bias.val, .c (.int .i64 at_), .c sv.val]] [] (baseA w) 0 rfl rfl (by show 1 ≤ _; decide) (abs_base w) ?_
  (repeat' ((conv => whnf) <;> first | (show callK _ 115 _ _ _ _ _; (refine call_pure (f := 115) Try.call115 _ (fun ρ w' hw => first_any w' n at_ sv (holds_of_abs hw fun R h => hs.later h) i s hi ha) ?_)) | (show callK _ 20 _ _ _ _ _; (refine call_pure (f := 20) Try.call20 _ (fun ρ w' hw => entries_ints w' s (holds_of_abs hw fun R h => hso.later h)) ?_)) | (show drawK _ 1 _ _ _ _ _ _; (refine draw_tree tabOk mixed [] _ (.take 0 (.take 1 (.take 2 (.take 3 (.take 5 (.take 6 (.take 7 (.take 8 (.take 9 (.take 10 (.take 11 (.take 12 (.take 13 (.alt 4 (.one 14 (.one 15 (.take 16 (.take 17 (.take 18 (.take 19 (.done))))))) (.one 14 (.alt 4 (.one 15 (.take 16 (.take 17 (.take 18 (.take 19 (.done)))))) (.one 15 (.take 16 (.take 17 (.one 4 (.take 18 (.take 19 (.done))))))))))))))))))))))) (by kernel_rfl) (by kernel_rfl) (by kernel_rfl) (List.Sublist.refl _) ?_)) | (show Wp _ _ _ _ _ _ _; (refine Wp.go tabOk rfl ?_)) | (show @cmpK _ _ _; (first | refine cmp_yes (by omega) ?_ | refine cmp_no (by omega) ?_ | (refine cmp_both ?_ ?_ <;> intro _))) | (show wrapK _ _ _; (refine wrap_i64 (by omega) (by omega) ?_)) | (show leK _ _ _; (refine le_of (by first | exact Nat.le_refl _ | omega) ?_)) | (show roomK _ _ _; (refine room_of (by first | omega | (dsimp only; omega)) ?_)) | (show ltK _ _ _; (refine lt_of (by omega) ?_)) | (show _ ∧ _; (refine ⟨?_, ?_⟩)) | (show keepK _ _ _ _ _; (refine keep_of (by first | exact List.Sublist.refl _ | exact List.Sublist.cons _ (List.Sublist.refl _) | exact List.Sublist.cons _ (List.Sublist.cons _ (List.Sublist.refl _)) | exact List.Sublist.cons _ (List.Sublist.cons _ (List.Sublist.cons _ (List.Sublist.refl _)))) (by first | exact (fun _ _ h => h) | exact (fun _ _ h => h.1) | exact (fun _ _ h => h.1.1)) ?_)) | (show ownK _ _ _ _ _; (refine own_keep ?_))))
  all_goals first
    | (rw [if_pos (by omega)]; exact ends_new (fun _ _ h => h) rfl List.mem_cons_self rfl (by intro x hx; simp only [List.mem_singleton] at hx; subst hx; omega) (by simp) rfl)
    | (rw [if_neg (by omega)]; exact ends_no (fun _ _ h => h) rfl rfl)

theorem IntsV.ok.at_ {w : World} {v : IntsV} {a : Addr} (h : v.ok w) (ha : v.base = some a) : ∀ (R : Nat → Prop) w', (baseA w).holds R w' → RowsI w' (some a) 1 (ints v.xs) := fun R w' hb => by rw [← ha]; exact rows_base hb h.rows
theorem mem3 {p : Int → Prop} {a b c : Int} (ha : p a) (hb : p b) (hc : p c) : ∀ x ∈ [a, b, c], p x := by
  intro x hx
  simp only [List.mem_cons, List.not_mem_nil, or_false] at hx
  rcases hx with rfl | rfl | rfl <;> assumption
set_option maxRecDepth 20000 in
set_option maxHeartbeats 4000000 in
theorem pool_m (w : World) (n : NodeV) (hn : n.ok w) (at_ : Int) (sv : ShapesV) (hs : sv.ok w) (i : Nat) (s : IntsV) (hi : sv.l[i]? = some s) (ha : n.a = i) (hz : 0 < n.size) (hg : 0 < entries s.xs) :
    Calls Try.prog 89 #[nodeVal n at_ sv.val] w (ShapePost w n sv.l (if s.xs.length ≠ 3 ∨ s.xs.getD 1 0 % n.size ≠ 0 ∨ s.xs.getD 2 0 % n.size ≠ 0 then none else some [s.xs.getD 0 0, s.xs.getD 1 0 / n.size, s.xs.getD 2 0 / n.size])) := by
  have hso := hs.each s (List.mem_of_getElem? hi)
  obtain ⟨hl1, hl3, hd⟩ := entries_dims hg
  obtain ⟨a, hb⟩ := hso.base (by omega)
  have hd0 : 0 < s.xs.length → 1 ≤ s.xs.getD 0 0 ∧ s.xs.getD 0 0 ≤ 64 := fun h => hd _ (getD_mem h)
  have hd1 : 1 < s.xs.length → 1 ≤ s.xs.getD 1 0 ∧ s.xs.getD 1 0 ≤ 64 := fun h => hd _ (getD_mem h)
  have hd2 : 2 < s.xs.length → 1 ≤ s.xs.getD 2 0 ∧ s.xs.getD 2 0 ≤ 64 := fun h => hd _ (getD_mem h)
  have hq1 : 1 < s.xs.length → 0 ≤ s.xs.getD 1 0 / n.size ∧ s.xs.getD 1 0 / n.size ≤ 64 := fun h => ⟨Int.ediv_nonneg (by omega) (by omega), Int.le_trans (Int.ediv_le_self _ (by omega)) (by omega)⟩
  have hq2 : 2 < s.xs.length → 0 ≤ s.xs.getD 2 0 / n.size ∧ s.xs.getD 2 0 / n.size ≤ 64 := fun h => ⟨Int.ediv_nonneg (by omega) (by omega), Int.le_trans (Int.ediv_le_self _ (by omega)) (by omega)⟩
  refine calls_of tab tabOk Try.func89 rfl rfl rfl [] (fun _ => ⟨none, 0⟩) [.agg [.c (.int .i64 n.kind), .c (.int .i64 n.a), .c (.int .i64 n.b), .c n.shape.val, .c (.int .i64 n.lo), .c (.int .i64 n.hi), .c (.int .i64 n.size), .c n.data.val, .c n.bias.val, .c (.int .i64 at_), .c sv.val]] [] (baseA w) 0 rfl rfl (by show 1 ≤ _; decide) (abs_base w) ?_
  (repeat' ((conv => whnf) <;> first | (show callK _ 115 _ _ _ _ _; (refine call_pure (f := 115) Try.call115 _ (fun ρ w' hw => first_any w' n at_ sv (holds_of_abs hw fun R h => hs.later h) i s hi ha) ?_)) | (show idxK _ _ _ _ _; (refine idx_of _ 0 hb rfl (by omega) ?_)) | (show roK _ _ _; (refine ro_int (hso.at_ hb) (j := 0) (by omega) ?_)) | (show idxK _ _ _ _ _; (refine idx_of _ 1 hb rfl (by omega) ?_)) | (show roK _ _ _; (refine ro_int (hso.at_ hb) (j := 1) (by omega) ?_)) | (show idxK _ _ _ _ _; (refine idx_of _ 2 hb rfl (by omega) ?_)) | (show roK _ _ _; (refine ro_int (hso.at_ hb) (j := 2) (by omega) ?_)) | (show remK _ _ _; (refine rem_pos (by omega) (by omega) ?_)) | (show divK _ _ _ _; (refine div_pos rfl (by omega) (by omega) (by omega) ?_)) | (show drawK _ 2 _ _ _ _ _ _; (refine draw_quiet tabOk mixed (by kernel_rfl) ?_)) | (show drawK _ 4 _ _ _ _ _ _; (refine draw_tree tabOk mixed [] _ (.take 0 (.take 1 (.take 2 (.take 3 (.take 4 (.take 5 (.take 6 (.take 7 (.take 8 (.take 9 (.take 10 (.take 11 (.take 12 (.take 13 (.take 14 (.take 15 (.take 16 (.one 17 (.take 18 (.take 19 (.done))))))))))))))))))))) (by kernel_rfl) (by kernel_rfl) (by kernel_rfl) (List.Sublist.refl _) ?_)) | (show Wp _ _ _ _ _ _ _; (refine Wp.go tabOk rfl ?_)) | (show @cmpK _ _ _; (first | refine cmp_yes (by omega) ?_ | refine cmp_no (by omega) ?_ | (refine cmp_both ?_ ?_ <;> intro _))) | (show wrapK _ _ _; (refine wrap_i64 (by omega) (by omega) ?_)) | (show leK _ _ _; (refine le_of (by first | exact Nat.le_refl _ | omega) ?_)) | (show roomK _ _ _; (refine room_of (by first | omega | (dsimp only; omega)) ?_)) | (show ltK _ _ _; (refine lt_of (by omega) ?_)) | (show _ ∧ _; (refine ⟨?_, ?_⟩)) | (show keepK _ _ _ _ _; (refine keep_of (by first | exact List.Sublist.refl _ | exact List.Sublist.cons _ (List.Sublist.refl _) | exact List.Sublist.cons _ (List.Sublist.cons _ (List.Sublist.refl _)) | exact List.Sublist.cons _ (List.Sublist.cons _ (List.Sublist.cons _ (List.Sublist.refl _)))) (by first | exact (fun _ _ h => h) | exact (fun _ _ h => h.1) | exact (fun _ _ h => h.1.1)) ?_)) | (show ownK _ _ _ _ _; (refine own_keep ?_))))
  all_goals first
    | (rw [if_neg (by omega)]; exact ends_new (fun _ _ h => h) rfl List.mem_cons_self rfl (mem3 (by omega) (by omega) (by omega)) (by simp) rfl)
    | (rw [if_pos (by omega)]; exact ends_no (fun _ _ h => h) rfl rfl)

set_option maxRecDepth 20000 in
set_option maxHeartbeats 4000000 in
theorem conv_m (w : World) (n : NodeV) (hn : n.ok w) (at_ : Int) (sv : ShapesV) (hs : sv.ok w) (i : Nat) (s : IntsV) (hi : sv.l[i]? = some s) (ha : n.a = i) (hk : 0 < kernelI n.shape.xs) (hg : 0 < entries s.xs) :
    Calls Try.prog 88 #[nodeVal n at_ sv.val] w (ShapePost w n sv.l (
      if s.xs.length ≠ 3 ∨ s.xs.getD 0 0 ≠ n.shape.xs.getD 1 0 ∨ s.xs.getD 1 0 < n.shape.xs.getD 2 0 ∨ s.xs.getD 2 0 < n.shape.xs.getD 3 0 then none
      else if 0 < entries [n.shape.xs.getD 0 0, s.xs.getD 1 0 - n.shape.xs.getD 2 0 + 1, s.xs.getD 2 0 - n.shape.xs.getD 3 0 + 1] then some [n.shape.xs.getD 0 0, s.xs.getD 1 0 - n.shape.xs.getD 2 0 + 1, s.xs.getD 2 0 - n.shape.xs.getD 3 0 + 1] else none)) := by
  have hso := hs.each s (List.mem_of_getElem? hi)
  obtain ⟨hl1, hl3, hd⟩ := entries_dims hg
  obtain ⟨a, hb⟩ := hso.base (by omega)
  obtain ⟨hk4, hkd⟩ := kernel_dims hk
  obtain ⟨c, hc⟩ := hn.shape.base (by omega)
  have hd0 : 0 < s.xs.length → 1 ≤ s.xs.getD 0 0 ∧ s.xs.getD 0 0 ≤ 64 := fun h => hd _ (getD_mem h)
  have hd1 : 1 < s.xs.length → 1 ≤ s.xs.getD 1 0 ∧ s.xs.getD 1 0 ≤ 64 := fun h => hd _ (getD_mem h)
  have hd2 : 2 < s.xs.length → 1 ≤ s.xs.getD 2 0 ∧ s.xs.getD 2 0 ≤ 64 := fun h => hd _ (getD_mem h)
  have hk0 := hkd _ (getD_mem (k := 0) (by omega))
  have hk1 := hkd _ (getD_mem (k := 1) (by omega))
  have hk2 := hkd _ (getD_mem (k := 2) (by omega))
  have hk3 := hkd _ (getD_mem (k := 3) (by omega))
  refine calls_of tab tabOk Try.func88 rfl rfl rfl [] (fun _ => ⟨none, 0⟩) [.agg [.c (.int .i64 n.kind), .c (.int .i64 n.a), .c (.int .i64 n.b), .c n.shape.val, .c (.int .i64 n.lo), .c (.int .i64 n.hi), .c (.int .i64 n.size), .c n.data.val, .c n.bias.val, .c (.int .i64 at_), .c sv.val]] [] (baseA w) 0 rfl rfl (by show 1 ≤ _; decide) (abs_base w) ?_
  (repeat' ((conv => whnf) <;> first | (show callK _ 115 _ _ _ _ _; (refine call_pure (f := 115) Try.call115 _ (fun ρ w' hw => first_any w' n at_ sv (holds_of_abs hw fun R h => hs.later h) i s hi ha) ?_)) | (show idxK _ _ _ _ _; (refine idx_of _ 0 hb rfl (by omega) ?_)) | (show roK _ _ _; (refine ro_int (hso.at_ hb) (j := 0) (by omega) ?_)) | (show idxK _ _ _ _ _; (refine idx_of _ 1 hb rfl (by omega) ?_)) | (show roK _ _ _; (refine ro_int (hso.at_ hb) (j := 1) (by omega) ?_)) | (show idxK _ _ _ _ _; (refine idx_of _ 2 hb rfl (by omega) ?_)) | (show roK _ _ _; (refine ro_int (hso.at_ hb) (j := 2) (by omega) ?_)) | (show idxK _ _ _ _ _; (refine idx_of _ 0 hc rfl (by omega) ?_)) | (show roK _ _ _; (refine ro_int (hn.shape.at_ hc) (j := 0) (by omega) ?_)) | (show idxK _ _ _ _ _; (refine idx_of _ 1 hc rfl (by omega) ?_)) | (show roK _ _ _; (refine ro_int (hn.shape.at_ hc) (j := 1) (by omega) ?_)) | (show idxK _ _ _ _ _; (refine idx_of _ 2 hc rfl (by omega) ?_)) | (show roK _ _ _; (refine ro_int (hn.shape.at_ hc) (j := 2) (by omega) ?_)) | (show idxK _ _ _ _ _; (refine idx_of _ 3 hc rfl (by omega) ?_)) | (show roK _ _ _; (refine ro_int (hn.shape.at_ hc) (j := 3) (by omega) ?_)) | (show callK _ 20 _ _ _ _ _; (refine call_pure (f := 20) Try.call20 _ (fun ρ w' hw => entries_any w' (ρ 1).base (ρ 1).cap [n.shape.xs.getD 0 0, s.xs.getD 1 0 - n.shape.xs.getD 2 0 + 1, s.xs.getD 2 0 - n.shape.xs.getD 3 0 + 1] (rows_of_abs hw List.mem_cons_self)) ?_)) | (show drawK _ 2 _ _ _ _ _ _; (refine draw_quiet tabOk mixed (by kernel_rfl) ?_)) | (show drawK _ 4 _ _ _ _ _ _; (refine draw_tree tabOk mixed [] _ (.take 0 (.take 1 (.take 2 (.take 3 (.take 4 (.take 5 (.take 6 (.take 7 (.take 8 (.take 9 (.take 10 (.take 11 (.take 12 (.take 13 (.take 14 (.take 15 (.take 16 (.take 17 (.take 18 (.take 19 (.take 20 (.take 21 (.take 22 (.take 23 (.take 24 (.one 25 (.take 26 (.done)))))))))))))))))))))))))))) (by kernel_rfl) (by kernel_rfl) (by kernel_rfl) (List.Sublist.refl _) ?_)) | (show Wp _ _ _ _ _ _ _; (refine Wp.go tabOk rfl ?_)) | (show @cmpK _ _ _; (first | refine cmp_yes (by omega) ?_ | refine cmp_no (by omega) ?_ | (refine cmp_both ?_ ?_ <;> intro _))) | (show wrapK _ _ _; (refine wrap_i64 (by omega) (by omega) ?_)) | (show leK _ _ _; (refine le_of (by first | exact Nat.le_refl _ | omega) ?_)) | (show roomK _ _ _; (refine room_of (by first | omega | (dsimp only; omega)) ?_)) | (show ltK _ _ _; (refine lt_of (by omega) ?_)) | (show _ ∧ _; (refine ⟨?_, ?_⟩)) | (show keepK _ _ _ _ _; (refine keep_of (by first | exact List.Sublist.refl _ | exact List.Sublist.cons _ (List.Sublist.refl _) | exact List.Sublist.cons _ (List.Sublist.cons _ (List.Sublist.refl _)) | exact List.Sublist.cons _ (List.Sublist.cons _ (List.Sublist.cons _ (List.Sublist.refl _)))) (by first | exact (fun _ _ h => h) | exact (fun _ _ h => h.1) | exact (fun _ _ h => h.1.1)) ?_)) | (show ownK _ _ _ _ _; (refine own_keep ?_))))
  all_goals first
    | (rw [if_neg (by omega), if_pos (by omega)]; exact ends_new (fun _ _ h => h) rfl List.mem_cons_self rfl (mem3 (by omega) (by omega) (by omega)) (by simp) rfl)
    | (rw [if_neg (by omega), if_neg (by omega)]; exact ends_no (fun _ _ h => h) rfl rfl)
    | (rw [if_pos (by omega)]; exact ends_no (fun _ _ h => h) rfl rfl)
end Go.Proofs.Ytajbngkcgbehlaa
