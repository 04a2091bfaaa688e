import Derived.Shelf.Sort.Plain
import Derived.Shelf.Slices.CompactI
import Derived.Shelf.Slices.In.SortNone
import Derived.Test.YtdmkdogakbipbaaKLinearSums3
/- GH -/
namespace Go.Proofs.Ytdmkdogakbipbaa
open Go.SX Go.RowKit
theorem i64_of_few {m : Nat} (h : m ≤ 1000000) : -9223372036854775808 ≤ (m : Int) ∧ (m : Int) ≤ 9223372036854775807 := by omega
set_option maxRecDepth 20000 in
set_option maxHeartbeats 2000000 in
theorem dense_m (w : World) (n : NodeV) (hn : n.ok w) (at_ : Int) (sv : ShapesV) (hs : sv.ok w) (i : Nat) (s : IntsV) (hi : sv.l[i]? = some s) (ha : n.a = i) (hbi : n.bias.xs.length ≤ 64) :
    Calls Try.prog 101 #[nodeVal n at_ sv.val] w (ShapePost w n sv.l (if (n.data.xs.length : Int) = n.bias.xs.length * entries s.xs then some [(n.bias.xs.length : Int)] else none)) := by
  have hso := hs.each s (List.mem_of_getElem? hi)
  have hm : 0 ≤ (n.bias.xs.length : Int) * entries s.xs ∧ (n.bias.xs.length : Int) * entries s.xs ≤ 4096 := by
    have h1 := entries_bd s.xs
    have h2 : (n.bias.xs.length : Int) * entries s.xs ≤ 64 * 64 := Int.mul_le_mul (by omega) h1.2 h1.1 (by omega)
    have h3 : 0 ≤ (n.bias.xs.length : Int) * entries s.xs := Int.mul_nonneg (by omega) h1.1
    omega
  refine calls_of tab tabOk Try.func101 rfl rfl rfl [] (fun _ => ⟨none, 0⟩) [.agg [.c (.int .i64 n.kind), .c (.int .i64 n.a), .c (.int .i64 n.b), .c n.shape.val, .c (.int .i64 n.lo), .c (.int .i64 n.hi), .c (.int .i64 n.size), .c n.data.val, .c n.bias.val, .c (.int .i64 at_), .c sv.val]] [] (baseA w) 0 rfl rfl (by show 1 ≤ _; decide) (abs_base w) ?_
  (repeat' ((conv => whnf) <;> first | (show callK _ 112 _ _ _ _ _; (refine call_pure (f := 112) Try.call112 _ (fun ρ w' hw => first_any w' n at_ sv (holds_of_abs hw fun R h => hs.later h) i s hi ha) ?_)) | (show callK _ 59 _ _ _ _ _; (refine call_pure (f := 59) Try.call59 _ (fun ρ w' hw => entries_ints w' s (holds_of_abs hw fun R h => hso.later h)) ?_)) | (show drawK _ 1 _ _ _ _ _ _; (refine draw_tree tabOk mixed [] _ (.take 0 (.take 1 (.take 2 (.take 3 (.take 5 (.take 6 (.take 7 (.take 8 (.take 9 (.take 10 (.take 11 (.take 12 (.take 13 (.alt 4 (.one 14 (.one 15 (.take 16 (.take 17 (.take 18 (.take 19 (.done))))))) (.one 14 (.alt 4 (.one 15 (.take 16 (.take 17 (.take 18 (.take 19 (.done)))))) (.one 15 (.take 16 (.take 17 (.one 4 (.take 18 (.take 19 (.done))))))))))))))))))))))) (by kernel_rfl) (by kernel_rfl) (by kernel_rfl) (List.Sublist.refl _) ?_)) | (show Wp _ _ _ _ _ _ _; (refine Wp.go tabOk rfl ?_)) | (show @cmpK _ _ _; (first | refine cmp_yes (by omega) ?_ | refine cmp_no (by omega) ?_ | (refine cmp_both ?_ ?_ <;> intro _))) | (show wrapK _ _ _; (refine wrap_i64 (by omega) (by omega) ?_)) | (show leK _ _ _; (refine le_of (by first | exact Nat.le_refl _ | omega) ?_)) | (show roomK _ _ _; (refine room_of (by first | omega | (dsimp only; omega)) ?_)) | (show ltK _ _ _; (refine lt_of (by omega) ?_)) | (show _ ∧ _; (refine ⟨?_, ?_⟩)) | (show keepK _ _ _ _ _; (refine keep_of (by first | exact List.Sublist.refl _ | exact List.Sublist.cons _ (List.Sublist.refl _) | exact List.Sublist.cons _ (List.Sublist.cons _ (List.Sublist.refl _)) | exact List.Sublist.cons _ (List.Sublist.cons _ (List.Sublist.cons _ (List.Sublist.refl _)))) (by first | exact (fun _ _ h => h) | exact (fun _ _ h => h.1) | exact (fun _ _ h => h.1.1)) ?_)) | (show ownK _ _ _ _ _; (refine own_keep ?_))))
  all_goals first
    | (rw [if_pos (by omega)]; exact ends_new (fun _ _ h => h) rfl List.mem_cons_self rfl (by intro x hx; simp only [List.mem_singleton] at hx; subst hx; omega) (by simp) rfl)
    | (rw [if_neg (by omega)]; exact ends_no (fun _ _ h => h) rfl rfl)

theorem IntsV.ok.at_ {w : World} {v : IntsV} {a : Addr} (h : v.ok w) (ha : v.base = some a) : ∀ (R : Nat → Prop) w', (baseA w).holds R w' → RowsI w' (some a) 1 (ints v.xs) := fun R w' hb => by rw [← ha]; exact rows_base hb h.rows
theorem mem3 {p : Int → Prop} {a b c : Int} (ha : p a) (hb : p b) (hc : p c) : ∀ x ∈ [a, b, c], p x := by
  intro x hx
  simp only [List.mem_cons, List.not_mem_nil, or_false] at hx
  rcases hx with rfl | rfl | rfl <;> assumption
set_option maxRecDepth 20000 in
set_option maxHeartbeats 4000000 in
theorem pool_m (w : World) (n : NodeV) (hn : n.ok w) (at_ : Int) (sv : ShapesV) (hs : sv.ok w) (i : Nat) (s : IntsV) (hi : sv.l[i]? = some s) (ha : n.a = i) (hz : 0 < n.size) (hg : 0 < entries s.xs) :
    Calls Try.prog 103 #[nodeVal n at_ sv.val] w (ShapePost w n sv.l (if s.xs.length ≠ 3 ∨ s.xs.getD 1 0 % n.size ≠ 0 ∨ s.xs.getD 2 0 % n.size ≠ 0 then none else some [s.xs.getD 0 0, s.xs.getD 1 0 / n.size, s.xs.getD 2 0 / n.size])) := by
  have hso := hs.each s (List.mem_of_getElem? hi)
  obtain ⟨hl1, hl3, hd⟩ := entries_dims hg
  obtain ⟨a, hb⟩ := hso.base (by omega)
  have hd0 : 0 < s.xs.length → 1 ≤ s.xs.getD 0 0 ∧ s.xs.getD 0 0 ≤ 64 := fun h => hd _ (getD_mem h)
  have hd1 : 1 < s.xs.length → 1 ≤ s.xs.getD 1 0 ∧ s.xs.getD 1 0 ≤ 64 := fun h => hd _ (getD_mem h)
  have hd2 : 2 < s.xs.length → 1 ≤ s.xs.getD 2 0 ∧ s.xs.getD 2 0 ≤ 64 := fun h => hd _ (getD_mem h)
  have hq1 : 1 < s.xs.length → 0 ≤ s.xs.getD 1 0 / n.size ∧ s.xs.getD 1 0 / n.size ≤ 64 := fun h => ⟨Int.ediv_nonneg (by omega) (by omega), Int.le_trans (Int.ediv_le_self _ (by omega)) (by omega)⟩
  have hq2 : 2 < s.xs.length → 0 ≤ s.xs.getD 2 0 / n.size ∧ s.xs.getD 2 0 / n.size ≤ 64 := fun h => ⟨Int.ediv_nonneg (by omega) (by omega), Int.le_trans (Int.ediv_le_self _ (by omega)) (by omega)⟩
  refine calls_of tab tabOk Try.func103 rfl rfl rfl [] (fun _ => ⟨none, 0⟩) [.agg [.c (.int .i64 n.kind), .c (.int .i64 n.a), .c (.int .i64 n.b), .c n.shape.val, .c (.int .i64 n.lo), .c (.int .i64 n.hi), .c (.int .i64 n.size), .c n.data.val, .c n.bias.val, .c (.int .i64 at_), .c sv.val]] [] (baseA w) 0 rfl rfl (by show 1 ≤ _; decide) (abs_base w) ?_
  (repeat' ((conv => whnf) <;> first | (show callK _ 112 _ _ _ _ _; (refine call_pure (f := 112) Try.call112 _ (fun ρ w' hw => first_any w' n at_ sv (holds_of_abs hw fun R h => hs.later h) i s hi ha) ?_)) | (show idxK _ _ _ _ _; (refine idx_of _ 0 hb rfl (by omega) ?_)) | (show roK _ _ _; (refine ro_int (hso.at_ hb) (j := 0) (by omega) ?_)) | (show idxK _ _ _ _ _; (refine idx_of _ 1 hb rfl (by omega) ?_)) | (show roK _ _ _; (refine ro_int (hso.at_ hb) (j := 1) (by omega) ?_)) | (show idxK _ _ _ _ _; (refine idx_of _ 2 hb rfl (by omega) ?_)) | (show roK _ _ _; (refine ro_int (hso.at_ hb) (j := 2) (by omega) ?_)) | (show remK _ _ _; (refine rem_pos (by omega) (by omega) ?_)) | (show divK _ _ _ _; (refine div_pos rfl (by omega) (by omega) (by omega) ?_)) | (show drawK _ 2 _ _ _ _ _ _; (refine draw_quiet tabOk mixed (by kernel_rfl) ?_)) | (show drawK _ 4 _ _ _ _ _ _; (refine draw_tree tabOk mixed [] _ (.take 0 (.take 1 (.take 2 (.take 3 (.take 4 (.take 5 (.take 6 (.take 7 (.take 8 (.take 9 (.take 10 (.take 11 (.take 12 (.take 13 (.take 14 (.take 15 (.take 16 (.one 17 (.take 18 (.take 19 (.done))))))))))))))))))))) (by kernel_rfl) (by kernel_rfl) (by kernel_rfl) (List.Sublist.refl _) ?_)) | (show Wp _ _ _ _ _ _ _; (refine Wp.go tabOk rfl ?_)) | (show @cmpK _ _ _; (first | refine cmp_yes (by omega) ?_ | refine cmp_no (by omega) ?_ | (refine cmp_both ?_ ?_ <;> intro _))) | (show wrapK _ _ _; (refine wrap_i64 (by omega) (by omega) ?_)) | (show leK _ _ _; (refine le_of (by first | exact Nat.le_refl _ | omega) ?_)) | (show roomK _ _ _; (refine room_of (by first | omega | (dsimp only; omega)) ?_)) | (show ltK _ _ _; (refine lt_of (by omega) ?_)) | (show _ ∧ _; (refine ⟨?_, ?_⟩)) | (show keepK _ _ _ _ _; (refine keep_of (by first | exact List.Sublist.refl _ | exact List.Sublist.cons _ (List.Sublist.refl _) | exact List.Sublist.cons _ (List.Sublist.cons _ (List.Sublist.refl _)) | exact List.Sublist.cons _ (List.Sublist.cons _ (List.Sublist.cons _ (List.Sublist.refl _)))) (by first | exact (fun _ _ h => h) | exact (fun _ _ h => h.1) | exact (fun _ _ h => h.1.1)) ?_)) | (show ownK _ _ _ _ _; (refine own_keep ?_))))
  all_goals first
    | (rw [if_neg (by omega)]; exact ends_new (fun _ _ h => h) rfl List.mem_cons_self rfl (mem3 (by omega) (by omega) (by omega)) (by simp) rfl)
    | (rw [if_pos (by omega)]; exact ends_no (fun _ _ h => h) rfl rfl)

set_option maxRecDepth 20000 in
set_option maxHeartbeats 4000000 in
theorem conv_m (w : World) (n : NodeV) (hn : n.ok w) (at_ : Int) (sv : ShapesV) (hs : sv.ok w) (i : Nat) (s : IntsV) (hi : sv.l[i]? = some s) (ha : n.a = i) (hk : 0 < kernelI n.shape.xs) (hg : 0 < entries s.xs) :
    Calls Try.prog 102 #[nodeVal n at_ sv.val] w (ShapePost w n sv.l (
      if s.xs.length ≠ 3 ∨ s.xs.getD 0 0 ≠ n.shape.xs.getD 1 0 ∨ s.xs.getD 1 0 < n.shape.xs.getD 2 0 ∨ s.xs.getD 2 0 < n.shape.xs.getD 3 0 then none
      else if 0 < entries [n.shape.xs.getD 0 0, s.xs.getD 1 0 - n.shape.xs.getD 2 0 + 1, s.xs.getD 2 0 - n.shape.xs.getD 3 0 + 1] then some [n.shape.xs.getD 0 0, s.xs.getD 1 0 - n.shape.xs.getD 2 0 + 1, s.xs.getD 2 0 - n.shape.xs.getD 3 0 + 1] else none)) := by
  have hso := hs.each s (List.mem_of_getElem? hi)
  obtain ⟨hl1, hl3, hd⟩ := entries_dims hg
  obtain ⟨a, hb⟩ := hso.base (by omega)
  obtain ⟨hk4, hkd⟩ := kernel_dims hk
  obtain ⟨c, hc⟩ := hn.shape.base (by omega)
  have hd0 : 0 < s.xs.length → 1 ≤ s.xs.getD 0 0 ∧ s.xs.getD 0 0 ≤ 64 := fun h => hd _ (getD_mem h)
  have hd1 : 1 < s.xs.length → 1 ≤ s.xs.getD 1 0 ∧ s.xs.getD 1 0 ≤ 64 := fun h => hd _ (getD_mem h)
  have hd2 : 2 < s.xs.length → 1 ≤ s.xs.getD 2 0 ∧ s.xs.getD 2 0 ≤ 64 := fun h => hd _ (getD_mem h)
  have hk0 := hkd _ (getD_mem (k := 0) (by omega))
  have hk1 := hkd _ (getD_mem (k := 1) (by omega))
  have hk2 := hkd _ (getD_mem (k := 2) (by omega))
  have hk3 := hkd _ (getD_mem (k := 3) (by omega))
  refine calls_of tab tabOk Try.func102 rfl rfl rfl [] (fun _ => ⟨none, 0⟩) [.agg [.c (.int .i64 n.kind), .c (.int .i64 n.a), .c (.int .i64 n.b), .c n.shape.val, .c (.int .i64 n.lo), .c (.int .i64 n.hi), .c (.int .i64 n.size), .c n.data.val, .c n.bias.val, .c (.int .i64 at_), .c sv.val]] [] (baseA w) 0 rfl rfl (by show 1 ≤ _; decide) (abs_base w) ?_
  (repeat' ((conv => whnf) <;> first | (show callK _ 112 _ _ _ _ _; (refine call_pure (f := 112) Try.call112 _ (fun ρ w' hw => first_any w' n at_ sv (holds_of_abs hw fun R h => hs.later h) i s hi ha) ?_)) | (show idxK _ _ _ _ _; (refine idx_of _ 0 hb rfl (by omega) ?_)) | (show roK _ _ _; (refine ro_int (hso.at_ hb) (j := 0) (by omega) ?_)) | (show idxK _ _ _ _ _; (refine idx_of _ 1 hb rfl (by omega) ?_)) | (show roK _ _ _; (refine ro_int (hso.at_ hb) (j := 1) (by omega) ?_)) | (show idxK _ _ _ _ _; (refine idx_of _ 2 hb rfl (by omega) ?_)) | (show roK _ _ _; (refine ro_int (hso.at_ hb) (j := 2) (by omega) ?_)) | (show idxK _ _ _ _ _; (refine idx_of _ 0 hc rfl (by omega) ?_)) | (show roK _ _ _; (refine ro_int (hn.shape.at_ hc) (j := 0) (by omega) ?_)) | (show idxK _ _ _ _ _; (refine idx_of _ 1 hc rfl (by omega) ?_)) | (show roK _ _ _; (refine ro_int (hn.shape.at_ hc) (j := 1) (by omega) ?_)) | (show idxK _ _ _ _ _; (refine idx_of _ 2 hc rfl (by omega) ?_)) | (show roK _ _ _; (refine ro_int (hn.shape.at_ hc) (j := 2) (by omega) ?_)) | (show idxK _ _ _ _ _; (refine idx_of _ 3 hc rfl (by omega) ?_)) | (show roK _ _ _; (refine ro_int (hn.shape.at_ hc) (j := 3) (by omega) ?_)) | (show callK _ 59 _ _ _ _ _; (refine call_pure (f := 59) Try.call59 _ (fun ρ w' hw => entries_any w' (ρ 1).base (ρ 1).cap [n.shape.xs.getD 0 0, s.xs.getD 1 0 - n.shape.xs.getD 2 0 + 1, s.xs.getD 2 0 - n.shape.xs.getD 3 0 + 1] (rows_of_abs hw List.mem_cons_self)) ?_)) | (show drawK _ 2 _ _ _ _ _ _; (refine draw_quiet tabOk mixed (by kernel_rfl) ?_)) | (show drawK _ 4 _ _ _ _ _ _; (refine draw_tree tabOk mixed [] _ (.take 0 (.take 1 (.take 2 (.take 3 (.take 4 (.take 5 (.take 6 (.take 7 (.take 8 (.take 9 (.take 10 (.take 11 (.take 12 (.take 13 (.take 14 (.take 15 (.take 16 (.take 17 (.take 18 (.take 19 (.take 20 (.take 21 (.take 22 (.take 23 (.take 24 (.one 25 (.take 26 (.done)))))))))))))))))))))))))))) (by kernel_rfl) (by kernel_rfl) (by kernel_rfl) (List.Sublist.refl _) ?_)) | (show Wp _ _ _ _ _ _ _; (refine Wp.go tabOk rfl ?_)) | (show @cmpK _ _ _; (first | refine cmp_yes (by omega) ?_ | refine cmp_no (by omega) ?_ | (refine cmp_both ?_ ?_ <;> intro _))) | (show wrapK _ _ _; (refine wrap_i64 (by omega) (by omega) ?_)) | (show leK _ _ _; (refine le_of (by first | exact Nat.le_refl _ | omega) ?_)) | (show roomK _ _ _; (refine room_of (by first | omega | (dsimp only; omega)) ?_)) | (show ltK _ _ _; (refine lt_of (by omega) ?_)) | (show _ ∧ _; (refine ⟨?_, ?_⟩)) | (show keepK _ _ _ _ _; (refine keep_of (by first | exact List.Sublist.refl _ | exact List.Sublist.cons _ (List.Sublist.refl _) | exact List.Sublist.cons _ (List.Sublist.cons _ (List.Sublist.refl _)) | exact List.Sublist.cons _ (List.Sublist.cons _ (List.Sublist.cons _ (List.Sublist.refl _)))) (by first | exact (fun _ _ h => h) | exact (fun _ _ h => h.1) | exact (fun _ _ h => h.1.1)) ?_)) | (show ownK _ _ _ _ _; (refine own_keep ?_))))
  all_goals first
    | (rw [if_neg (by omega), if_pos (by omega)]; exact ends_new (fun _ _ h => h) rfl List.mem_cons_self rfl (mem3 (by omega) (by omega) (by omega)) (by simp) rfl)
    | (rw [if_neg (by omega), if_neg (by omega)]; exact ends_no (fun _ _ h => h) rfl rfl)
    | (rw [if_pos (by omega)]; exact ends_no (fun _ _ h => h) rfl rfl)
end Go.Proofs.Ytdmkdogakbipbaa
/- GI -/
namespace Go.Proofs.Ytdmkdogakbipbaa
open Go.SX Go.RowKit
theorem call_shape {cx : Cx} {f : FuncId} {args : List SV} {H : Heap} {S : Asn} {nx : Nat} {K : SV → Heap → Asn → Nat → Prop} {n : NodeV} {l : List IntsV} (R0 : Option (List Int)) {r : Option (List Int)} (hf : ∀ ar w, (callFunc f ar).run cx.P w = .ok (.enter f ar) w) (hr : R0 = r)
    (hc : ∀ ρ w', Abs cx.B ρ nx H S w' → Calls cx.P f (SV.rfs ρ args).toArray w' (ShapePost w' n l r))
    (h0 : R0 = none → ∀ v, K (.c (.tuple #[v, .bool false])) H S nx)
    (h1 : ∀ u : IntsV, R0 = some u.xs → (u = n.shape ∨ u ∈ l) → K (.c (.tuple #[u.val, .bool true])) H S nx)
    (h2 : ∀ u : IntsV, R0 = some u.xs → u.sane → K (.c (.tuple #[u.val, .bool true])) H (S.and (newA cx.B.w0.heap.size u)) nx) : callK cx f args H S nx K := by
  subst hr
  rw [callK_def]
  refine ⟨hf, fun ρ w hw => (hc ρ w hw).mono ?_⟩
  rintro e w' ⟨v, ok, rfl, he, hok, hv⟩
  cases hr : R0 with
  | none =>
    rw [hr] at hok
    obtain rfl : ok = false := hok
    exact ⟨.c (.tuple #[v, .bool false]), ρ, H, S, nx, rfl, fun _ _ => rfl, Nat.le_refl _, SV.lt_c _, hw.ext he, h0 hr v⟩
  | some xs =>
    rw [hr] at hok
    obtain rfl : ok = true := hok
    obtain ⟨u, rfl, hu, hcase⟩ := hv xs hr
    rw [← hu] at hr
    rcases hcase with hcase | hcase | ⟨hsane, hnew⟩
    · exact ⟨.c (.tuple #[u.val, .bool true]), ρ, H, S, nx, rfl, fun _ _ => rfl, Nat.le_refl _, SV.lt_c _, hw.ext he, h1 u hr (.inl hcase)⟩
    · exact ⟨.c (.tuple #[u.val, .bool true]), ρ, H, S, nx, rfl, fun _ _ => rfl, Nat.le_refl _, SV.lt_c _, hw.ext he, h1 u hr (.inr hcase)⟩
    · refine ⟨.c (.tuple #[u.val, .bool true]), ρ, H, S.and (newA cx.B.w0.heap.size u), nx, rfl, fun _ _ => rfl, Nat.le_refl _, SV.lt_c _, ?_, h2 u hr hsane⟩
      obtain ⟨R, φ, hwR⟩ := hw
      have hwR' := hwR.step (Step.of_ext he) (fun _ _ h => h) (fun _ _ _ _ h => h)
      refine ⟨fun b => R b ∨ (w.heap.size ≤ b ∧ b < w'.heap.size), φ, hwR'.os, hwR'.tape, hwR'.output, hwR'.size, hwR'.pin, fun b hb => hb.elim (hwR'.ro b) (fun h => h.2), ⟨S.stable (fun _ h => .inl h) (fun _ _ => rfl) hwR'.asn, ?_⟩, hwR'.key, hwR'.ent, fun p hp b hb hb' => ?_, hwR'.sep⟩
      · exact (intsA u).stable (fun b hb => ⟨.inr hb, Nat.le_trans hwR.size hb.1⟩) (fun _ _ => rfl) hnew
      · rcases hb' with hb' | hb'
        · exact hwR'.apart p hp b hb hb'
        · have := Ent.size (hwR.ent p hp) hb; omega
theorem ends_newA {B : Base} {H : Heap} {S : Asn} {nx : Nat} {w : World} {n : NodeV} {l : List IntsV} {r : Option (List Int)} (u : IntsV) (hb : ∀ R w', S.holds R w' → (baseA B.w0).holds R w') (hw0 : B.w0 = w) (hs : u.sane) (hr : r = some u.xs) :
    finK B (.tup [.c u.val, .c (.bool true)]) H (S.and (newA B.w0.heap.size u)) nx (ShapePost w n l r) := by
  subst hw0 hr
  refine fin_of fun ρ w' hw => ⟨_, true, rfl, ext_of_abs hw (fun R w' h => hb R w' h.1), rfl, fun xs h => ⟨u, rfl, by simpa using h, .inr (.inr ⟨hs, ?_⟩)⟩⟩
  obtain ⟨R, φ, hw⟩ := hw
  exact (intsA u).stable (fun b hb => ⟨hb.2, hw.ro b hb.1⟩) (fun _ _ => rfl) hw.asn.2

set_option maxRecDepth 20000 in
set_option maxHeartbeats 4000000 in
theorem shape_any (w : World) (n : NodeV) (hn : n.ok w) (at_ : Int) (sv : ShapesV) (hs : sv.ok w) (hf : Formed n sv.l.length) (hg : ∀ s ∈ sv.l, 0 < entries s.xs) :
    Calls Try.prog 73 #[nodeVal n at_ sv.val] w (ShapePost w n sv.l (shapeO n (sv.l.map (·.xs)))) := by
  by_cases h12 : n.kind = 1 ∨ n.kind = 2
  · have hsp : shapeO n (sv.l.map (·.xs)) = some n.shape.xs := by unfold shapeO; rw [if_pos h12]
    refine calls_of tab tabOk Try.func73 rfl rfl rfl [] (fun _ => ⟨none, 0⟩) [.agg [.c (.int .i64 n.kind), .c (.int .i64 n.a), .c (.int .i64 n.b), .c n.shape.val, .c (.int .i64 n.lo), .c (.int .i64 n.hi), .c (.int .i64 n.size), .c n.data.val, .c n.bias.val, .c (.int .i64 at_), .c sv.val]] [] (baseA w) 0 rfl rfl (by show 1 ≤ _; decide) (abs_base w) ?_
    (repeat' ((conv => whnf) <;> first | (show callK _ 100 _ _ _ _ _; (refine call_shape (f := 100) (n := n) (l := sv.l) (shapeO n (sv.l.map (·.xs))) Try.call100 hsp (fun ρ w' hw => own_m w' n at_ sv) ?_ ?_ ?_ <;> intros)) | (show Wp _ _ _ _ _ _ _; (refine Wp.go tabOk rfl ?_)) | (show @cmpK _ _ _; (first | refine cmp_yes (by omega) ?_ | refine cmp_no (by omega) ?_ | (refine cmp_both ?_ ?_ <;> intro _))) | (show wrapK _ _ _; (refine wrap_i64 (by omega) (by omega) ?_)) | (show leK _ _ _; (refine le_of (by first | exact Nat.le_refl _ | omega) ?_)) | (show roomK _ _ _; (refine room_of (by first | omega | (dsimp only; omega)) ?_)) | (show ltK _ _ _; (refine lt_of (by omega) ?_)) | (show _ ∧ _; (refine ⟨?_, ?_⟩)) | (show keepK _ _ _ _ _; (refine keep_of (by first | exact List.Sublist.refl _ | exact List.Sublist.cons _ (List.Sublist.refl _) | exact List.Sublist.cons _ (List.Sublist.cons _ (List.Sublist.refl _)) | exact List.Sublist.cons _ (List.Sublist.cons _ (List.Sublist.cons _ (List.Sublist.refl _)))) (by first | exact (fun _ _ h => h) | exact (fun _ _ h => h.1) | exact (fun _ _ h => h.1.1)) ?_)) | (show ownK _ _ _ _ _; (refine own_keep ?_))))
    all_goals first
      | exact ends_no (fun _ _ h => h) rfl (by assumption)
      | exact ends_old _ (fun _ _ h => h) rfl (by assumption) (by assumption)
      | exact ends_newA _ (fun _ _ h => h) rfl (by assumption) (by assumption)
  · obtain ⟨ha0, ha1⟩ := hf.a (by omega) (by omega)
    obtain ⟨i, hia⟩ := Int.eq_ofNat_of_zero_le ha0
    have hil : i < sv.l.length := by omega
    obtain ⟨s, hi⟩ : ∃ s, sv.l[i]? = some s := ⟨_, List.getElem?_eq_getElem hil⟩
    have hA : (sv.l.map (·.xs)).getD n.a.toNat [] = s.xs := by rw [hia]; simp [List.getD, hi]
    have hgs := hg s (List.mem_of_getElem? hi)
    by_cases h6 : n.kind = 6
    · obtain ⟨hb0, hb1⟩ := hf.b h6
      obtain ⟨j, hjb⟩ := Int.eq_ofNat_of_zero_le hb0
      have hjl : j < sv.l.length := by omega
      obtain ⟨t, hj⟩ : ∃ t, sv.l[j]? = some t := ⟨_, List.getElem?_eq_getElem hjl⟩
      have hB : (sv.l.map (·.xs)).getD n.b.toNat [] = t.xs := by rw [hjb]; simp [List.getD, hj]
      have hsp : shapeO n (sv.l.map (·.xs)) = if s.xs = t.xs then some s.xs else none := by
        unfold shapeO; simp only [hA, hB]; repeat (first | rw [if_pos (by omega)] | rw [if_neg (by omega)])
      refine calls_of tab tabOk Try.func73 rfl rfl rfl [] (fun _ => ⟨none, 0⟩) [.agg [.c (.int .i64 n.kind), .c (.int .i64 n.a), .c (.int .i64 n.b), .c n.shape.val, .c (.int .i64 n.lo), .c (.int .i64 n.hi), .c (.int .i64 n.size), .c n.data.val, .c n.bias.val, .c (.int .i64 at_), .c sv.val]] [] (baseA w) 0 rfl rfl (by show 1 ≤ _; decide) (abs_base w) ?_
      (repeat' ((conv => whnf) <;> first | (show callK _ 104 _ _ _ _ _; (refine call_shape (f := 104) (n := n) (l := sv.l) (shapeO n (sv.l.map (·.xs))) Try.call104 hsp (fun ρ w' hw => sum_m w' n at_ sv (holds_of_abs hw fun R h => hs.later h) i j s t hi hia hj hjb) ?_ ?_ ?_ <;> intros)) | (show Wp _ _ _ _ _ _ _; (refine Wp.go tabOk rfl ?_)) | (show @cmpK _ _ _; (first | refine cmp_yes (by omega) ?_ | refine cmp_no (by omega) ?_ | (refine cmp_both ?_ ?_ <;> intro _))) | (show wrapK _ _ _; (refine wrap_i64 (by omega) (by omega) ?_)) | (show leK _ _ _; (refine le_of (by first | exact Nat.le_refl _ | omega) ?_)) | (show roomK _ _ _; (refine room_of (by first | omega | (dsimp only; omega)) ?_)) | (show ltK _ _ _; (refine lt_of (by omega) ?_)) | (show _ ∧ _; (refine ⟨?_, ?_⟩)) | (show keepK _ _ _ _ _; (refine keep_of (by first | exact List.Sublist.refl _ | exact List.Sublist.cons _ (List.Sublist.refl _) | exact List.Sublist.cons _ (List.Sublist.cons _ (List.Sublist.refl _)) | exact List.Sublist.cons _ (List.Sublist.cons _ (List.Sublist.cons _ (List.Sublist.refl _)))) (by first | exact (fun _ _ h => h) | exact (fun _ _ h => h.1) | exact (fun _ _ h => h.1.1)) ?_)) | (show ownK _ _ _ _ _; (refine own_keep ?_))))
      all_goals first
        | exact ends_no (fun _ _ h => h) rfl (by assumption)
        | exact ends_old _ (fun _ _ h => h) rfl (by assumption) (by assumption)
        | exact ends_newA _ (fun _ _ h => h) rfl (by assumption) (by assumption)
    · refine calls_of tab tabOk Try.func73 rfl rfl rfl [] (fun _ => ⟨none, 0⟩) [.agg [.c (.int .i64 n.kind), .c (.int .i64 n.a), .c (.int .i64 n.b), .c n.shape.val, .c (.int .i64 n.lo), .c (.int .i64 n.hi), .c (.int .i64 n.size), .c n.data.val, .c n.bias.val, .c (.int .i64 at_), .c sv.val]] [] (baseA w) 0 rfl rfl (by show 1 ≤ _; decide) (abs_base w) ?_
      (repeat' ((conv => whnf) <;> first | (show callK _ 99 _ _ _ _ _; (refine call_shape (f := 99) (n := n) (l := sv.l) (shapeO n (sv.l.map (·.xs))) Try.call99 (by unfold shapeO; simp only [hA]; repeat (first | rw [if_pos (by omega)] | rw [if_neg (by omega)])) (fun ρ w' hw => same_m w' n at_ sv (holds_of_abs hw fun R h => hs.later h) i s hi hia) ?_ ?_ ?_ <;> intros)) | (show callK _ 101 _ _ _ _ _; (refine call_shape (f := 101) (n := n) (l := sv.l) (shapeO n (sv.l.map (·.xs))) Try.call101 (by unfold shapeO; simp only [hA]; repeat (first | rw [if_pos (by omega)] | rw [if_neg (by omega)])) (fun ρ w' hw => dense_m w' n (holds_of_abs hw fun R h => hn.later h) at_ sv (holds_of_abs hw fun R h => hs.later h) i s hi hia (hf.bias (by omega)).2) ?_ ?_ ?_ <;> intros)) | (show callK _ 102 _ _ _ _ _; (refine call_shape (f := 102) (n := n) (l := sv.l) (shapeO n (sv.l.map (·.xs))) Try.call102 (by unfold shapeO; simp only [hA]; repeat (first | rw [if_pos (by omega)] | rw [if_neg (by omega)])) (fun ρ w' hw => conv_m w' n (holds_of_abs hw fun R h => hn.later h) at_ sv (holds_of_abs hw fun R h => hs.later h) i s hi hia (hf.kern (by omega)) hgs) ?_ ?_ ?_ <;> intros)) | (show callK _ 103 _ _ _ _ _; (refine call_shape (f := 103) (n := n) (l := sv.l) (shapeO n (sv.l.map (·.xs))) Try.call103 (by unfold shapeO; simp only [hA]; repeat (first | rw [if_pos (by omega)] | rw [if_neg (by omega)])) (fun ρ w' hw => pool_m w' n (holds_of_abs hw fun R h => hn.later h) at_ sv (holds_of_abs hw fun R h => hs.later h) i s hi hia (hf.pool (by omega)) hgs) ?_ ?_ ?_ <;> intros)) | (show callK _ 105 _ _ _ _ _; (refine call_shape (f := 105) (n := n) (l := sv.l) (shapeO n (sv.l.map (·.xs))) Try.call105 (by unfold shapeO; simp only [hA]; repeat (first | rw [if_pos (by omega)] | rw [if_neg (by omega)])) (fun ρ w' hw => flat_m w' n (holds_of_abs hw fun R h => hn.later h) at_ sv (holds_of_abs hw fun R h => hs.later h) i s hi hia) ?_ ?_ ?_ <;> intros)) | (show Wp _ _ _ _ _ _ _; (refine Wp.go tabOk rfl ?_)) | (show @cmpK _ _ _; (first | refine cmp_yes (by omega) ?_ | refine cmp_no (by omega) ?_ | (refine cmp_both ?_ ?_ <;> intro _))) | (show wrapK _ _ _; (refine wrap_i64 (by omega) (by omega) ?_)) | (show leK _ _ _; (refine le_of (by first | exact Nat.le_refl _ | omega) ?_)) | (show roomK _ _ _; (refine room_of (by first | omega | (dsimp only; omega)) ?_)) | (show ltK _ _ _; (refine lt_of (by omega) ?_)) | (show _ ∧ _; (refine ⟨?_, ?_⟩)) | (show keepK _ _ _ _ _; (refine keep_of (by first | exact List.Sublist.refl _ | exact List.Sublist.cons _ (List.Sublist.refl _) | exact List.Sublist.cons _ (List.Sublist.cons _ (List.Sublist.refl _)) | exact List.Sublist.cons _ (List.Sublist.cons _ (List.Sublist.cons _ (List.Sublist.refl _)))) (by first | exact (fun _ _ h => h) | exact (fun _ _ h => h.1) | exact (fun _ _ h => h.1.1)) ?_)) | (show ownK _ _ _ _ _; (refine own_keep ?_))))
      all_goals first
        | exact ends_no (fun _ _ h => h) rfl (by assumption)
        | exact ends_old _ (fun _ _ h => h) rfl (by assumption) (by assumption)
        | exact ends_newA _ (fun _ _ h => h) rfl (by assumption) (by assumption)
end Go.Proofs.Ytdmkdogakbipbaa
/- GJ -/
namespace Go.Proofs.Ytdmkdogakbipbaa
open Go.SX Go.RowKit
theorem slice_nil {base : Option Addr} {len cap size : Nat} {K : SV → Prop} (hb : base = none) (hl : len = 0) (h : K (.c (.slice none 0 0))) : sliceK base len cap size none (some (len : Int)) (some (len : Int)) K := by
  subst hb hl
  exact slice_full (Nat.zero_le _) h
theorem slice_some {base : Option Addr} {len cap size : Nat} {K : SV → Prop} {a : Addr} (hb : base = some a) (hc : len ≤ cap) (h : K (.c (.slice (some a) len len))) : sliceK base len cap size none (some (len : Int)) (some (len : Int)) K := by
  subst hb
  exact slice_full hc h
/-- one's own numbers -/
theorem own_ints {B : Base} {ρ : Nat → SX.Loc} {nx : Nat} {H : Heap} {S : Asn} {w : World} {i m : Nat} {T : TypeId} {R : List (List Value)} {xs : List Int} (hw : Abs B ρ nx H S w) (he : (i, Ent.rows R 1 T) ∈ H) (hR : R = ints xs) (hm : m = xs.length) (hf : ∀ x ∈ xs, i64 x) (hl : xs.length ≤ 1000000) :
    ∃ v : IntsV, (SV.rfs ρ [.os i m]).toArray = #[v.val] ∧ v.xs = xs ∧ v.ok w := by
  subst hR hm
  refine ⟨⟨(ρ i).base, (ρ i).cap, xs⟩, rfl, rfl, rows_of_abs hw he, hf, ?_, hl⟩
  obtain ⟨R, φ, hw⟩ := hw
  have := (hw.ent _ he).2.1
  simpa [ints_length] using this
theorem max_own {B : Base} {ρ : Nat → SX.Loc} {nx : Nat} {H : Heap} {S : Asn} {w : World} {i m : Nat} {T : TypeId} {R : List (List Value)} {xs : List Int} (hw : Abs B ρ nx H S w) (he : (i, Ent.rows R 1 T) ∈ H) (hR : R = ints xs) (hm : m = xs.length) (hf : ∀ x ∈ xs, i64 x) (hl : xs.length ≤ 1000000) (h1 : 1 ≤ xs.length) :
    Calls Try.prog 47 (SV.rfs ρ [.os i m]).toArray w fun e w' => e = .returned (.int .i64 (foldI max xs)) ∧ Ext w w' := by
  obtain ⟨v, e1, rfl, hv⟩ := own_ints hw he hR hm hf hl
  rw [e1]; exact max_any w v hv h1
theorem min_own {B : Base} {ρ : Nat → SX.Loc} {nx : Nat} {H : Heap} {S : Asn} {w : World} {i m : Nat} {T : TypeId} {R : List (List Value)} {xs : List Int} (hw : Abs B ρ nx H S w) (he : (i, Ent.rows R 1 T) ∈ H) (hR : R = ints xs) (hm : m = xs.length) (hf : ∀ x ∈ xs, i64 x) (hl : xs.length ≤ 1000000) (h1 : 1 ≤ xs.length) :
    Calls Try.prog 46 (SV.rfs ρ [.os i m]).toArray w fun e w' => e = .returned (.int .i64 (foldI min xs)) ∧ Ext w w' := by
  obtain ⟨v, e1, rfl, hv⟩ := own_ints hw he hR hm hf hl
  rw [e1]; exact min_any w v hv h1

theorem foldl_max_le : ∀ (xs : List Int) (a b : Int), xs.foldl max a ≤ b ↔ a ≤ b ∧ ∀ x ∈ xs, x ≤ b
  | [], a, b => by simp
  | x :: r, a, b => by
    rw [List.foldl_cons, foldl_max_le r]
    simp only [List.mem_cons, forall_eq_or_imp]
    constructor
    · rintro ⟨h1, h2⟩; exact ⟨by omega, by omega, h2⟩
    · rintro ⟨h1, h2, h3⟩; exact ⟨by omega, h3⟩
theorem le_foldl_min : ∀ (xs : List Int) (a b : Int), b ≤ xs.foldl min a ↔ b ≤ a ∧ ∀ x ∈ xs, b ≤ x
  | [], a, b => by simp
  | x :: r, a, b => by
    rw [List.foldl_cons, le_foldl_min r]
    simp only [List.mem_cons, forall_eq_or_imp]
    constructor
    · rintro ⟨h1, h2⟩; exact ⟨by omega, by omega, h2⟩
    · rintro ⟨h1, h2, h3⟩; exact ⟨by omega, h3⟩
theorem foldI_max_le {xs : List Int} {b : Int} (h : xs ≠ []) : foldI max xs ≤ b ↔ ∀ x ∈ xs, x ≤ b := by
  cases xs with
  | nil => exact absurd rfl h
  | cons x r => simp only [foldI, foldl_max_le, List.mem_cons, forall_eq_or_imp]
theorem le_foldI_min {xs : List Int} {b : Int} (h : xs ≠ []) : b ≤ foldI min xs ↔ ∀ x ∈ xs, b ≤ x := by
  cases xs with
  | nil => exact absurd rfl h
  | cons x r => simp only [foldI, le_foldl_min, List.mem_cons, forall_eq_or_imp]
theorem nearL_fold (xs : List Int) : nearL xs = decide (foldI max (xs ++ [0]) ≤ 1048576 ∧ -1048576 ≤ foldI min (xs ++ [0])) := by
  rw [nearL, Bool.eq_iff_iff]
  simp only [List.all_eq_true, decide_eq_true_eq]
  rw [foldI_max_le (by simp), le_foldI_min (by simp)]
  simp only [List.mem_append, List.mem_singleton]
  constructor
  · intro h
    exact ⟨fun x hx => hx.elim (fun g => (h x g).2) (fun g => by omega), fun x hx => hx.elim (fun g => (h x g).1) (fun g => by omega)⟩
  · rintro ⟨h1, h2⟩ x hx
    exact ⟨h2 x (.inl hx), h1 x (.inl hx)⟩
@[irreducible] def nearB (n : NodeV) : Bool := nearL n.data.xs && nearL n.bias.xs && nearL [n.lo, n.hi] && decide (n.lo ≤ n.hi)

theorem base_cases {w : World} {v : IntsV} (h : v.ok w) : (v.base = none ∧ v.xs = []) ∨ ∃ a, v.base = some a := by
  cases hb : v.base with
  | none =>
    left
    refine ⟨rfl, ?_⟩
    rcases h.rows with h | ⟨a, ha, _⟩
    · simpa [ints] using h
    · rw [hb] at ha; cases ha
  | some a => exact .inr ⟨a, rfl⟩
theorem i64_app {xs : List Int} (h : ∀ x ∈ xs, -9223372036854775808 ≤ x ∧ x ≤ 9223372036854775807) : ∀ x ∈ xs ++ [0], i64 x := by
  intro x hx
  rcases List.mem_append.1 hx with hx | hx
  · exact h x hx
  · simp at hx; subst hx; exact ⟨by decide, by decide⟩
set_option maxRecDepth 20000 in
set_option maxHeartbeats 8000000 in
theorem near_any (w : World) (n : NodeV) (hn : n.ok w) (hd : n.data.xs.length ≤ 5000) (hbi : n.bias.xs.length ≤ 5000) (at_ : Int) (sv : Value) :
    Calls Try.prog 74 #[nodeVal n at_ sv] w fun e w' => e = .returned (.bool (nearB n)) ∧ Ext w w' := by
  have hD := nearL_fold n.data.xs
  have hBi := nearL_fold n.bias.xs
  have hL := nearL_fold [n.lo, n.hi]
  have fD := i64_app hn.data.fits
  have fB := i64_app hn.bias.fits
  have fL : ∀ x ∈ [n.lo, n.hi] ++ [0], i64 x := i64_app (by intro x hx; simp at hx; rcases hx with rfl | rfl; exact hn.loFits; exact hn.hiFits)
  have hfD := hn.data.room
  have hfB := hn.bias.room
  have hDn : n.data.xs = [] → foldI max (n.data.xs ++ [0]) = 0 ∧ foldI min (n.data.xs ++ [0]) = 0 := fun h => by rw [h]; exact ⟨rfl, rfl⟩
  have hBn : n.bias.xs = [] → foldI max (n.bias.xs ++ [0]) = 0 ∧ foldI min (n.bias.xs ++ [0]) = 0 := fun h => by rw [h]; exact ⟨rfl, rfl⟩
  rcases base_cases hn.data with ⟨bD, xD⟩ | ⟨aD, bD⟩ <;> rcases base_cases hn.bias with ⟨bB, xB⟩ | ⟨aB, bB⟩
  all_goals
    try have qD := hDn xD
    try have qB := hBn xB
    refine calls_of tab tabOk Try.func74 rfl rfl rfl [] (fun _ => ⟨none, 0⟩) [.agg [.c (.int .i64 n.kind), .c (.int .i64 n.a), .c (.int .i64 n.b), .c n.shape.val, .c (.int .i64 n.lo), .c (.int .i64 n.hi), .c (.int .i64 n.size), .c n.data.val, .c n.bias.val, .c (.int .i64 at_), .c sv]] [] (baseA w) 0 rfl rfl (by show 1 ≤ _; decide) (abs_base w) ?_
    (repeat' ((conv => whnf) <;> first | (show Wp _ _ _ _ _ _ _; (refine Wp.go tabOk rfl ?_)) | (show @cmpK _ _ _; (first | refine cmp_yes (by omega) ?_ | refine cmp_no (by omega) ?_ | (refine cmp_both ?_ ?_ <;> intro _))) | (show wrapK _ _ _; (refine wrap_i64 (by omega) (by omega) ?_)) | (show leK _ _ _; (refine le_of (by first | exact Nat.le_refl _ | omega) ?_)) | (show roomK _ _ _; (refine room_of (by first | omega | (dsimp only; omega)) ?_)) | (show ltK _ _ _; (refine lt_of (by omega) ?_)) | (show _ ∧ _; (refine ⟨?_, ?_⟩)) | (show keepK _ _ _ _ _; (refine keep_of (by first | exact List.Sublist.refl _ | exact List.Sublist.cons _ (List.Sublist.refl _) | exact List.Sublist.cons _ (List.Sublist.cons _ (List.Sublist.refl _)) | exact List.Sublist.cons _ (List.Sublist.cons _ (List.Sublist.cons _ (List.Sublist.refl _)))) (by first | exact (fun _ _ h => h) | exact (fun _ _ h => h.1) | exact (fun _ _ h => h.1.1)) ?_)) | (show ownK _ _ _ _ _; (refine own_keep ?_))))
    refine Wp.freeze 1 (xs := ints [n.lo, n.hi]) (k := 1) (T := 3) (List.mem_cons_of_mem _ List.mem_cons_self) ?_
    intro l hl
    have hl2 : 2 ≤ l.cap := hl
    refine Wp.know (p := ∃ a, l.base = some a ∧ ∀ R w', ((baseA w).and (rowsA l.base 1 (ints [n.lo, n.hi]))).holds R w' → RowsI w' (some a) 1 (ints [n.lo, n.hi])) ?_ ?_
    · rintro ρ w' ⟨R, φ, hw⟩
      obtain ⟨b, off, hb, _⟩ := hw.asn.2.2.resolve_left (by simp [ints])
      exact ⟨_, hb, fun R' w'' h => by rw [← hb]; exact rowsA_in h.2⟩
    rintro ⟨aL, bL, hRL⟩
    refine Wp.rounds 4 ?_
    (repeat' ((conv => whnf) <;> first | (show sliceK _ _ _ _ _ _ _ _; (first | refine slice_nil bD (by simp [xD]) ?_ | refine slice_nil bB (by simp [xB]) ?_ | refine slice_some bD (by omega) ?_ | refine slice_some bB (by omega) ?_ | refine slice_some bL (by omega) ?_)) | (show roomK _ _ _; (refine room_of (by first | omega | decide | (show (n.data.xs.length + 1) * 8 ≤ 140737488355328; omega) | (show (n.bias.xs.length + 1) * 8 ≤ 140737488355328; omega)) ?_)) | (show roRowsK _ _ _ _ _; (first | refine roRows_in (ints_length _) (fun R w' h => hn.data.at_ bD R w' h.1) ints_row ?_ | refine roRows_in (ints_length _) (fun R w' h => hn.bias.at_ bB R w' h.1) ints_row ?_ | refine roRows_in (by simp [ints]) hRL ints_row ?_)) | (show callK _ 47 _ _ _ _ _; (refine call_pure (f := 47) Try.call47 (.int .i64 (foldI max (n.data.xs ++ [0]))) (fun ρ w' hw => max_own hw List.mem_cons_self (xs := n.data.xs ++ [0]) (by first | (simp only [ints, List.map_append]; rfl) | (simp only [ints, List.map_append, xD]; rfl)) (by first | (rw [List.length_append]; rfl) | (rw [List.length_append, xD]; rfl) | (rw [List.length_append, xB]; rfl)) fD (by simp; omega) (by simp)) ?_)) | (show callK _ 47 _ _ _ _ _; (refine call_pure (f := 47) Try.call47 (.int .i64 (foldI max (n.bias.xs ++ [0]))) (fun ρ w' hw => max_own hw List.mem_cons_self (xs := n.bias.xs ++ [0]) (by first | (simp only [ints, List.map_append]; rfl) | (simp only [ints, List.map_append, xB]; rfl)) (by first | (rw [List.length_append]; rfl) | (rw [List.length_append, xD]; rfl) | (rw [List.length_append, xB]; rfl)) fB (by simp; omega) (by simp)) ?_)) | (show callK _ 47 _ _ _ _ _; (refine call_pure (f := 47) Try.call47 (.int .i64 (foldI max ([n.lo, n.hi] ++ [0]))) (fun ρ w' hw => max_own hw List.mem_cons_self (xs := [n.lo, n.hi] ++ [0]) rfl rfl fL (by simp) (by simp)) ?_)) | (show callK _ 46 _ _ _ _ _; (refine call_pure (f := 46) Try.call46 (.int .i64 (foldI min (n.data.xs ++ [0]))) (fun ρ w' hw => min_own hw List.mem_cons_self (xs := n.data.xs ++ [0]) (by first | (simp only [ints, List.map_append]; rfl) | (simp only [ints, List.map_append, xD]; rfl)) (by first | (rw [List.length_append]; rfl) | (rw [List.length_append, xD]; rfl) | (rw [List.length_append, xB]; rfl)) fD (by simp; omega) (by simp)) ?_)) | (show callK _ 46 _ _ _ _ _; (refine call_pure (f := 46) Try.call46 (.int .i64 (foldI min (n.bias.xs ++ [0]))) (fun ρ w' hw => min_own hw List.mem_cons_self (xs := n.bias.xs ++ [0]) (by first | (simp only [ints, List.map_append]; rfl) | (simp only [ints, List.map_append, xB]; rfl)) (by first | (rw [List.length_append]; rfl) | (rw [List.length_append, xD]; rfl) | (rw [List.length_append, xB]; rfl)) fB (by simp; omega) (by simp)) ?_)) | (show callK _ 46 _ _ _ _ _; (refine call_pure (f := 46) Try.call46 (.int .i64 (foldI min ([n.lo, n.hi] ++ [0]))) (fun ρ w' hw => min_own hw List.mem_cons_self (xs := [n.lo, n.hi] ++ [0]) rfl rfl fL (by simp) (by simp)) ?_)) | (show Wp _ _ _ _ _ _ _; (refine Wp.go tabOk rfl ?_)) | (show @cmpK _ _ _; (first | refine cmp_yes (by omega) ?_ | refine cmp_no (by omega) ?_ | (refine cmp_both ?_ ?_ <;> intro _))) | (show wrapK _ _ _; (refine wrap_i64 (by omega) (by omega) ?_)) | (show leK _ _ _; (refine le_of (by first | exact Nat.le_refl _ | omega) ?_)) | (show roomK _ _ _; (refine room_of (by first | omega | (dsimp only; omega)) ?_)) | (show ltK _ _ _; (refine lt_of (by omega) ?_)) | (show _ ∧ _; (refine ⟨?_, ?_⟩)) | (show keepK _ _ _ _ _; (refine keep_of (by first | exact List.Sublist.refl _ | exact List.Sublist.cons _ (List.Sublist.refl _) | exact List.Sublist.cons _ (List.Sublist.cons _ (List.Sublist.refl _)) | exact List.Sublist.cons _ (List.Sublist.cons _ (List.Sublist.cons _ (List.Sublist.refl _)))) (by first | exact (fun _ _ h => h) | exact (fun _ _ h => h.1) | exact (fun _ _ h => h.1.1)) ?_)) | (show ownK _ _ _ _ _; (refine own_keep ?_))))
    all_goals (conv => whnf)
    all_goals (refine ends_bool (B := ⟨w, []⟩) (w := w) (S := (baseA w).and (rowsA l.base 1 (ints [n.lo, n.hi]))) (fun _ _ h => h.1) rfl ?_; unfold nearB; (first | rw [show nearL n.data.xs = true from by rw [xD]; rfl] | rw [hD]); (first | rw [show nearL n.bias.xs = true from by rw [xB]; rfl] | rw [hBi]); rw [hL])
    all_goals first | (simp only [Bool.and_eq_false_iff, decide_eq_false_iff_not]; omega) | ((repeat rw [decide_eq_true (by omega)]); rfl)
end Go.Proofs.Ytdmkdogakbipbaa
/- LC -/
namespace Go.Proofs.Ytdmkdogakbipbaa
open Go.RowKit Go.Maps Go.Shelf Go.SX
theorem below_two {B : Nat} {w a b : World} (h1 : Below B w a) (h2 : Below B w b) (hs : a.heap.size ≤ b.heap.size) : Below B a b :=
  ⟨h2.os.trans h1.os.symm, h2.tape.trans h1.tape.symm, h2.output.trans h1.output.symm, hs, fun k hk => (h2.block k hk).trans (h1.block k hk).symm⟩
/-- a slice's numbers, where they lie in one block -/
def IntsIn (w : World) (base : Option Addr) (zs : List Int) : Prop :=
  zs = [] ∨ ∃ b off, base = some ⟨b, off, none⟩ ∧ b < w.heap.size ∧ ∀ j, j < zs.length → w.cell? ⟨b, off + j, none⟩ = some (.int .i64 (zs[j]?.getD 0))
theorem IntsIn.below {w w' : World} {base : Option Addr} {zs : List Int} (h : IntsIn w base zs) (hb : Below w.heap.size w w') : IntsIn w' base zs := by
  rcases h with h | ⟨b, off, h1, h2, h3⟩
  · exact .inl h
  · exact .inr ⟨b, off, h1, Nat.lt_of_lt_of_le h2 hb.size, fun j hj => (hb.cell (p := ⟨b, off + j, none⟩) h2).trans (h3 j hj)⟩
theorem values_over (F : Fence) (n : Nat) (h7 : F.fn 111) (hro : F.round = none) (hn : 1 ≤ n) (Bs : Nat) (base : Option Addr) (cap : Nat) (zs : List Int) (hreach : zs.length * 8 ≤ 140737488351232) (w : World) (hBs : Bs < w.heap.size)
    (hc : w.cell? ⟨Bs, 0, none⟩ = some (.slice base zs.length cap)) (hI : IntsIn w base zs) :
    SeqOver F n 111 #[.pointer (some ⟨Bs, 0, none⟩)] (fun ys => ys = zs) zs.length w := fun l J W hW hJB hY h0 => by
  have hc' := (hW.cell (p := ⟨Bs, 0, none⟩) hBs).trans hc
  rcases hI with rfl | ⟨b, off, rfl, hb, hcs⟩
  · exact (values1_nil_in F n h7 hro l Bs J W base cap hc' h0).mono fun e W' ⟨he, hj⟩ => ⟨he, _, rfl, hj⟩
  · refine (values1_in F n h7 hro hn l Bs w.heap.size b off zs.length cap zs hreach hb J (fun _ _ => False) (fun pre x W1 hj hl => ?_) W hc' (fun j hj => (hW.cell (p := ⟨b, off + j, none⟩) hb).trans (hcs j hj)) h0).mono ?_
    · obtain ⟨fn, tmps, assign, body, hy, hR⟩ := hY pre x W1 hj hl
      exact ⟨fn, tmps, assign, body, hy, hR.mono fun e w' ⟨h1, h2, h3⟩ => .inl ⟨h1, h2, below_two (hJB _ _ hj) (hJB _ _ h2) h3.size⟩⟩
    · rintro e W' ⟨he, ⟨ys, rfl, hj⟩ | ⟨_, _, hf⟩⟩
      · exact ⟨he, _, upto_all zs, hj⟩
      · exact hf.elim
theorem new_of_owns {w w' : World} {v : Value} {zs : List Int} (h : w'.ownsRow w.heap.size 3 1 v zs.length (zs.map (Value.int .i64))) : NewRows w w' v 1 3 (ints zs) := by
  have hone : ∀ r ∈ ints zs, r.length = 1 ∧ ∀ v ∈ r, v.oneCell' = true := fun r hr => by
    obtain ⟨x, _, rfl⟩ := List.mem_map.1 hr
    exact ⟨rfl, fun v hv => by rw [List.mem_singleton.1 hv]; rfl⟩
  rcases h.2 with ⟨rfl, h0⟩ | ⟨g, cap, cur, rfl, hb, hg, h1, h2, h3, h4⟩
  · have hz : zs = [] := List.eq_nil_of_length_eq_zero h0
    subst hz
    exact ⟨⟨none, 0⟩, rfl, fun _ => False, fun _ h => h.elim, hone, Nat.zero_le _, .inl ⟨rfl, rfl, fun _ h => h⟩⟩
  · refine ⟨⟨some ⟨g, 0, none⟩, cap⟩, by rw [ints_length], fun x => x = g, fun b hbb => by rw [hbb]; exact hb, hone, by rw [ints_length]; exact h1, .inr ⟨g, 0, cur, rfl, fun _ => Iff.rfl, hg, by show 0 + cap * 1 ≤ cur.size; omega, fun i r hr j v hv => ?_⟩⟩
    obtain ⟨x, hx, rfl⟩ : ∃ x, zs[i]? = some x ∧ r = [.int .i64 x] := by
      rw [ints, List.getElem?_map] at hr
      cases hx : zs[i]? with
      | none => rw [hx] at hr; cases hr
      | some x => rw [hx] at hr; exact ⟨x, rfl, by simpa using hr.symm⟩
    have hj : j = 0 := by
      rcases Nat.eq_zero_or_pos j with h | h
      · exact h
      · rw [List.getElem?_eq_none (by show 1 ≤ j; exact h)] at hv; cases hv
    subst hj
    have hv' : v = .int .i64 x := by simpa using hv.symm
    subst hv'
    have hi : i < zs.length := (List.getElem?_eq_some_iff.1 hx).1
    have := congrArg (fun l : List Value => l[i]?) h4
    simp only [Nat.mul_one, List.getElem?_take_of_lt hi, List.getElem?_map, hx, Option.map_some] at this
    rw [Nat.zero_add, Nat.mul_one, Nat.add_zero, ← Array.getElem?_toList]
    exact this
set_option maxHeartbeats 1000000 in
theorem collect_any (w : World) (Bs : Nat) (base : Option Addr) (cap : Nat) (zs : List Int) (hl : zs.length ≤ 1000000) (hBs : Bs < w.heap.size) (hc : w.cell? ⟨Bs, 0, none⟩ = some (.slice base zs.length cap)) (hI : IntsIn w base zs) :
    Calls Try.prog 109 #[.func (.func 111) #[] #[.pointer (some ⟨Bs, 0, none⟩)]] w fun e w' => ∃ v, e = .returned v ∧ NewRows w w' v 1 3 (ints zs) ∧ Ext w w' := by
  refine (callsIn_wide (n := 3)).1 ?_
  have hfA : Fence.wide.fn 113 := trivial
  have hseq := values_over Fence.wide 1 trivial rfl (Nat.le_refl _) Bs base cap zs (by omega) w hBs hc hI
  refine callsIn_of_wp Try.func109 rfl trivial ?_ rfl
  simp only [Try.ntmps109, List.size_toArray, List.length_cons, List.length_nil, Nat.reduceAdd, Nat.reduceSub, Array.replicate_succ, Array.replicate_zero, List.push_toArray, List.append_toArray, List.nil_append, List.cons_append]
  gi_wp2_with (gi_at_call 113; refine (appendSeq_in Fence.wide 2 trivial rfl (Nat.le_refl _) 111 _ trivial Try.call111 _ zs.length (by show zs.length ≤ 9223372036854775807; omega) (by omega) _ hseq).mono ?_; rintro e w' ⟨v, ss, rfl, hS, hrow, hnil, hb⟩)
  go_ret
  subst hS
  exact ⟨v, rfl, new_of_owns hrow, hb⟩
theorem values_any (w : World) (base : Option Addr) (len cap : Nat) : Calls Try.prog 88 #[.slice base len cap] w fun e w' => e = .returned (.func (.func 111) #[] #[.pointer (some ⟨w.heap.size, 0, none⟩)]) ∧ w' = w.alloc (.cells #[.slice base len cap] 33) := by
  refine (callsIn_wide (n := 1)).1 ?_
  refine callsIn_of_wp Try.func88 rfl trivial ?_ rfl
  simp only [Try.ntmps88, List.size_toArray, List.length_cons, List.length_nil, Nat.reduceAdd, Nat.reduceSub, Array.replicate_succ, Array.replicate_zero, List.push_toArray, List.append_toArray, List.nil_append, List.cons_append]
  gi_wp2
  go_ret
  exact ⟨rfl, rfl⟩
end Go.Proofs.Ytdmkdogakbipbaa
/- LCa -/
namespace Go.Proofs.Ytdmkdogakbipbaa
open Go.RowKit Go.SX
theorem cell_lt {w : World} {p : Addr} {v : Value} (h : w.cell? p = some v) : p.block < w.heap.size := by
  unfold World.cell? at h
  cases hb : w.heap[p.block]? with
  | none => simp [hb] at h
  | some o => exact (Array.getElem?_eq_some_iff.1 hb).1
theorem cell_frame {w : World} {a : Addr} {v : Value} (h : w.cell? a = some v) : a = ⟨a.block, a.off, none⟩ := by
  obtain ⟨b, o, f⟩ := a
  cases f with
  | none => rfl
  | some x => simp [World.cell?] at h; split at h <;> simp at h
theorem IntsV.ok.within {w : World} {u : IntsV} (h : u.ok w) : IntsIn w u.base u.xs := by
  rcases h.rows with h0 | ⟨a, ha, hc⟩
  · exact .inl (List.eq_nil_of_length_eq_zero (by have := congrArg List.length h0; rwa [ints_length] at this))
  · rcases Nat.eq_zero_or_pos u.xs.length with h1 | h1
    · exact .inl (List.eq_nil_of_length_eq_zero h1)
    · have hcell : ∀ j, j < u.xs.length → w.cell? (a.add j) = some (.int .i64 (u.xs[j]?.getD 0)) := fun j hj => by
        have := hc j [.int .i64 u.xs[j]] (ints_get hj) 0 _ rfl
        rw [Nat.mul_one, Nat.add_zero] at this
        rw [this, List.getElem?_eq_getElem hj]; rfl
      have h2 := hcell 0 h1
      have e0 : a.add 0 = a := by simp [Addr.add]
      rw [e0] at h2
      have ea := cell_frame h2
      have e1 : ∀ j, a.add j = ⟨a.block, a.off + j, none⟩ := fun j => by
        rw [ea]; simp [Addr.add]
      exact .inr ⟨a.block, a.off, ha.trans (congrArg some ea), cell_lt h2, fun j hj => by rw [← e1]; exact hcell j hj⟩
theorem values_call {cx : Cx} {H : Heap} {S : Asn} {nx : Nat} {K : SV → Heap → Asn → Nat → Prop} (base : Option Addr) (len cap : Nat) (hP : cx.P = Try.prog)
    (h : ∀ Bs : Nat, K (.c (.func (.func 111) #[] #[.pointer (some ⟨Bs, 0, none⟩)])) H (S.and ((rowsA (some ⟨Bs, 0, none⟩) 1 [[.slice base len cap]]).past cx.B.w0.heap.size)) nx) : callK cx 88 [.c (.slice base len cap)] H S nx K := by
  obtain ⟨P, B, n, tb⟩ := cx
  simp only at hP
  subst hP
  refine call_past Try.call88 (fun Bs : Nat => .func (.func 111) #[] #[.pointer (some ⟨Bs, 0, none⟩)]) (fun Bs => rowsA (some ⟨Bs, 0, none⟩) 1 [[.slice base len cap]]) (fun _ => True) (fun ρ w' hw => (values_any w' base len cap).mono ?_) (fun Bs _ => h Bs)
  rintro e w2 ⟨rfl, rfl⟩
  refine ⟨w'.heap.size, trivial, rfl, (Below.refl _ w').alloc (Nat.le_refl _) _, fun r hr => ?_, .inr ⟨w'.heap.size, 0, rfl, ⟨Nat.le_refl _, by rw [World.size_alloc]; omega⟩, fun i r hr j v hv => ?_⟩⟩
  · rw [List.mem_singleton.1 hr]
    exact ⟨rfl, fun v hv => by rw [List.mem_singleton.1 hv]; rfl⟩
  · match i, j with
    | 0, 0 =>
      simp at hr
      subst hr
      simp at hv
      subst hv
      exact cell_one_new _ _ _ 0 _ rfl
    | i + 1, _ => simp at hr
    | 0, j + 1 =>
      simp at hr
      subst hr
      simp at hv
end Go.Proofs.Ytdmkdogakbipbaa
/- LJ -/
namespace Go.Proofs.Ytdmkdogakbipbaa
open Go.RowKit Go.SX
theorem ro_cell {a : Addr} {S : Asn} {K : SV → Prop} {v : Value} (hx : ∀ R w, S.holds R w → w.cell? a = some v) (h : K (.c v)) : roK a S K := by rw [roK_def]; exact ⟨v, hx, h⟩
/-- rows of numbers, however many -/
structure ShapesV.okB (w : World) (v : ShapesV) : Prop where
  rows : RowsI w v.base 1 (shRows v.l)
  each : ∀ s ∈ v.l, s.ok w
  few : v.l.length ≤ 1000000
theorem ShapesV.okB.later {w w' : World} {R : Nat → Prop} {v : ShapesV} (h : v.okB w) (hb : (baseA w).holds R w') : v.okB w' := ⟨rows_base hb h.rows, fun s hs => (h.each s hs).later hb, h.few⟩
theorem offLen_any (w : World) (u : IntsV) (hu : u.ok w) (p : Addr) (fb : Option Addr) (fl fc : Nat) (hc : w.cell? p = some (.slice fb fl fc)) : Calls Try.prog 62 #[u.val, .pointer (some p)] w fun e w' => e = .returned (.bool (decide (u.xs.length ≠ fl))) ∧ Ext w w' := by
  refine calls_of tab tabOk Try.func62 rfl rfl rfl [] (fun _ => ⟨none, 0⟩) [.c u.val, .c (.pointer (some p))] [] (baseA w) 0 rfl rfl (by show 2 ≤ _; decide) (abs_base w) ?_
  (repeat' ((conv => whnf) <;> first | (show roK _ _ _; (refine ro_cell (fun R w' h => by rw [cell_same (h _ (cell_block hc)).2]; exact hc) ?_)) | (show @cmpK _ _ _; ((refine cmp_both ?_ ?_ <;> intro _))) | (show Wp _ _ _ _ _ _ _; (refine Wp.go tabOk rfl ?_)) | (show @cmpK _ _ _; (first | refine cmp_yes (by omega) ?_ | refine cmp_no (by omega) ?_ | (refine cmp_both ?_ ?_ <;> intro _))) | (show wrapK _ _ _; (refine wrap_i64 (by omega) (by omega) ?_)) | (show leK _ _ _; (refine le_of (by first | exact Nat.le_refl _ | omega) ?_)) | (show roomK _ _ _; (refine room_of (by first | omega | (dsimp only; omega)) ?_)) | (show ltK _ _ _; (refine lt_of (by omega) ?_)) | (show _ ∧ _; (refine ⟨?_, ?_⟩)) | (show keepK _ _ _ _ _; (refine keep_of (by first | exact List.Sublist.refl _ | exact List.Sublist.cons _ (List.Sublist.refl _) | exact List.Sublist.cons _ (List.Sublist.cons _ (List.Sublist.refl _)) | exact List.Sublist.cons _ (List.Sublist.cons _ (List.Sublist.cons _ (List.Sublist.refl _)))) (by first | exact (fun _ _ h => h) | exact (fun _ _ h => h.1) | exact (fun _ _ h => h.1.1)) ?_)) | (show ownK _ _ _ _ _; (refine own_keep ?_))))
  all_goals (conv => whnf)
  all_goals first | exact ends_bool (fun _ _ h => h) rfl (decide_eq_true (by omega)) | exact ends_bool (fun _ _ h => h) rfl (decide_eq_false (by omega))
def offs (l : List IntsV) (fl : Nat) (i : Nat) : Prop := ∀ k, k < i → ∀ h : k < l.length, l[k].xs.length = fl
set_option maxHeartbeats 1000000 in
theorem indexOff_any (w : World) (rv : ShapesV) (hr : rv.okB w) (p : Addr) (fb : Option Addr) (fl fc : Nat) (hc : w.cell? p = some (.slice fb fl fc)) : Calls Try.prog 90 #[rv.val, .func (.func 62) #[] #[.pointer (some p)]] w fun e w' => (∃ k : Int, e = .returned (.int .i64 k) ∧ (0 ≤ k ↔ rv.l.any (fun u => decide (u.xs.length ≠ fl)) = true)) ∧ Ext w w' := by
  have hf := hr.few
  refine calls_of tab tabOk Try.func90 rfl rfl rfl [] (fun _ => ⟨none, 0⟩) [.c rv.val, .c (.func (.func 62) #[] #[.pointer (some p)])] [] (baseA w) 0 rfl rfl (by show 2 ≤ _; decide) (abs_base w) ?_
  (repeat' ((conv => whnf) <;> first | (show Wp _ _ _ _ _ _ _; (refine Wp.go tabOk rfl ?_)) | (show @cmpK _ _ _; (first | refine cmp_yes (by omega) ?_ | refine cmp_no (by omega) ?_ | (refine cmp_both ?_ ?_ <;> intro _))) | (show wrapK _ _ _; (refine wrap_i64 (by omega) (by omega) ?_)) | (show leK _ _ _; (refine le_of (by first | exact Nat.le_refl _ | omega) ?_)) | (show roomK _ _ _; (refine room_of (by first | omega | (dsimp only; omega)) ?_)) | (show ltK _ _ _; (refine lt_of (by omega) ?_)) | (show _ ∧ _; (refine ⟨?_, ?_⟩)) | (show keepK _ _ _ _ _; (refine keep_of (by first | exact List.Sublist.refl _ | exact List.Sublist.cons _ (List.Sublist.refl _) | exact List.Sublist.cons _ (List.Sublist.cons _ (List.Sublist.refl _)) | exact List.Sublist.cons _ (List.Sublist.cons _ (List.Sublist.cons _ (List.Sublist.refl _)))) (by first | exact (fun _ _ h => h) | exact (fun _ _ h => h.1) | exact (fun _ _ h => h.1.1)) ?_)) | (show ownK _ _ _ _ _; (refine own_keep ?_))))
  refine Wp.loop (σ := Nat) 0 (fun i => [(0, .c rv.val), (1, .c (.func (.func 62) #[] #[.pointer (some p)])), (7, .c (.int .i64 rv.l.length)), (8, .c (.int .i64 i))]) (fun _ => []) (fun _ => baseA w)
    (fun i => offs rv.l fl i) (fun i => rv.l.length - i) 0 [] (by decide) (fun s => ⟨rfl, rfl⟩) (fun k hk => absurd hk (Nat.not_lt_zero k)) ⟨rfl, ⟨rfl, rfl, rfl, rfl, trivial⟩, trivial, fun _ _ h => h⟩ ?_
  intro i hi
  by_cases hlt : i < rv.l.length
  · obtain ⟨ra, hra⟩ : ∃ a, rv.base = some a := base_some (j := i) hr.rows (by rw [shRows_length]; exact hlt)
    have hou := hr.each rv.l[i] (List.getElem_mem hlt)
    by_cases hne : rv.l[i].xs.length = fl
    · (repeat' ((conv => whnf) <;> first | (show idxK _ _ _ _ _; (refine idx_of ra i hra rfl hlt ?_)) | (show roK _ _ _; (refine ro_row0 (fun R w' h => by rw [← hra]; exact rows_base h hr.rows) _ _ (shRows_get hlt) rfl ?_)) | (show callK _ 62 _ _ _ _ _; (refine call_pure (f := 62) Try.call62 (.bool false) (fun ρ w' hw => by have := offLen_any w' rv.l[i] (holds_of_abs hw fun R h => hou.later h) p fb fl fc (holds_of_abs hw fun R h => by rw [cell_same (h _ (cell_block hc)).2]; exact hc); rw [decide_eq_false (by omega)] at this; exact this) ?_)) | (show Wp _ _ _ _ _ _ _; (refine Wp.go tabOk rfl ?_)) | (show @cmpK _ _ _; (first | refine cmp_yes (by omega) ?_ | refine cmp_no (by omega) ?_ | (refine cmp_both ?_ ?_ <;> intro _))) | (show wrapK _ _ _; (refine wrap_i64 (by omega) (by omega) ?_)) | (show leK _ _ _; (refine le_of (by first | exact Nat.le_refl _ | omega) ?_)) | (show roomK _ _ _; (refine room_of (by first | omega | (dsimp only; omega)) ?_)) | (show ltK _ _ _; (refine lt_of (by omega) ?_)) | (show _ ∧ _; (refine ⟨?_, ?_⟩)) | (show keepK _ _ _ _ _; (refine keep_of (by first | exact List.Sublist.refl _ | exact List.Sublist.cons _ (List.Sublist.refl _) | exact List.Sublist.cons _ (List.Sublist.cons _ (List.Sublist.refl _)) | exact List.Sublist.cons _ (List.Sublist.cons _ (List.Sublist.cons _ (List.Sublist.refl _)))) (by first | exact (fun _ _ h => h) | exact (fun _ _ h => h.1) | exact (fun _ _ h => h.1.1)) ?_)) | (show ownK _ _ _ _ _; (refine own_keep ?_))))
      all_goals (conv => whnf)
      all_goals refine ⟨i + 1, [], fun k hk h => ?_, by omega, rfl, ⟨rfl, rfl, rfl, rfl, trivial⟩, trivial, fun _ _ h => h⟩
      rcases Nat.lt_or_ge k i with h1 | h1
      · exact hi k h1 h
      · obtain rfl : k = i := by omega
        exact hne
    · (repeat' ((conv => whnf) <;> first | (show idxK _ _ _ _ _; (refine idx_of ra i hra rfl hlt ?_)) | (show roK _ _ _; (refine ro_row0 (fun R w' h => by rw [← hra]; exact rows_base h hr.rows) _ _ (shRows_get hlt) rfl ?_)) | (show callK _ 62 _ _ _ _ _; (refine call_pure (f := 62) Try.call62 (.bool true) (fun ρ w' hw => by have := offLen_any w' rv.l[i] (holds_of_abs hw fun R h => hou.later h) p fb fl fc (holds_of_abs hw fun R h => by rw [cell_same (h _ (cell_block hc)).2]; exact hc); rw [decide_eq_true (by omega)] at this; exact this) ?_)) | (show Wp _ _ _ _ _ _ _; (refine Wp.go tabOk rfl ?_)) | (show @cmpK _ _ _; (first | refine cmp_yes (by omega) ?_ | refine cmp_no (by omega) ?_ | (refine cmp_both ?_ ?_ <;> intro _))) | (show wrapK _ _ _; (refine wrap_i64 (by omega) (by omega) ?_)) | (show leK _ _ _; (refine le_of (by first | exact Nat.le_refl _ | omega) ?_)) | (show roomK _ _ _; (refine room_of (by first | omega | (dsimp only; omega)) ?_)) | (show ltK _ _ _; (refine lt_of (by omega) ?_)) | (show _ ∧ _; (refine ⟨?_, ?_⟩)) | (show keepK _ _ _ _ _; (refine keep_of (by first | exact List.Sublist.refl _ | exact List.Sublist.cons _ (List.Sublist.refl _) | exact List.Sublist.cons _ (List.Sublist.cons _ (List.Sublist.refl _)) | exact List.Sublist.cons _ (List.Sublist.cons _ (List.Sublist.cons _ (List.Sublist.refl _)))) (by first | exact (fun _ _ h => h) | exact (fun _ _ h => h.1) | exact (fun _ _ h => h.1.1)) ?_)) | (show ownK _ _ _ _ _; (refine own_keep ?_))))
      all_goals (conv => whnf)
      refine fin_of fun ρ w' hw => ⟨⟨i, rfl, fun _ => List.any_eq_true.2 ⟨rv.l[i], List.getElem_mem hlt, by simpa using hne⟩, fun _ => by omega⟩, ext_of_abs hw (fun _ _ h => h)⟩
  · (repeat' ((conv => whnf) <;> first | (show Wp _ _ _ _ _ _ _; (refine Wp.go tabOk rfl ?_)) | (show @cmpK _ _ _; (first | refine cmp_yes (by omega) ?_ | refine cmp_no (by omega) ?_ | (refine cmp_both ?_ ?_ <;> intro _))) | (show wrapK _ _ _; (refine wrap_i64 (by omega) (by omega) ?_)) | (show leK _ _ _; (refine le_of (by first | exact Nat.le_refl _ | omega) ?_)) | (show roomK _ _ _; (refine room_of (by first | omega | (dsimp only; omega)) ?_)) | (show ltK _ _ _; (refine lt_of (by omega) ?_)) | (show _ ∧ _; (refine ⟨?_, ?_⟩)) | (show keepK _ _ _ _ _; (refine keep_of (by first | exact List.Sublist.refl _ | exact List.Sublist.cons _ (List.Sublist.refl _) | exact List.Sublist.cons _ (List.Sublist.cons _ (List.Sublist.refl _)) | exact List.Sublist.cons _ (List.Sublist.cons _ (List.Sublist.cons _ (List.Sublist.refl _)))) (by first | exact (fun _ _ h => h) | exact (fun _ _ h => h.1) | exact (fun _ _ h => h.1.1)) ?_)) | (show ownK _ _ _ _ _; (refine own_keep ?_))))
    all_goals (conv => whnf)
    refine fin_of fun ρ w' hw => ⟨⟨-1, rfl, fun h => absurd h (by decide), fun h => ?_⟩, ext_of_abs hw (fun _ _ h => h)⟩
    obtain ⟨u, hu, hx⟩ := List.any_eq_true.1 h
    obtain ⟨k, hk, rfl⟩ := List.mem_iff_getElem.1 hu
    exact absurd (hi k (by omega) hk) (by simpa using hx)
theorem containsOff_any (w : World) (rv : ShapesV) (hr : rv.okB w) (p : Addr) (fb : Option Addr) (fl fc : Nat) (hc : w.cell? p = some (.slice fb fl fc)) : Calls Try.prog 61 #[rv.val, .func (.func 62) #[] #[.pointer (some p)]] w fun e w' => e = .returned (.bool (rv.l.any fun u => decide (u.xs.length ≠ fl))) ∧ Ext w w' := by
  refine calls_of tab tabOk Try.func61 rfl rfl rfl [] (fun _ => ⟨none, 0⟩) [.c rv.val, .c (.func (.func 62) #[] #[.pointer (some p)])] [] (baseA w) 0 rfl rfl (by show 2 ≤ _; decide) (abs_base w) ?_
  (repeat' ((conv => whnf) <;> first | (show callK _ 90 _ _ _ _ _; (refine call_some (f := 90) Try.call90 (fun k : Int => .int .i64 k) (fun k => 0 ≤ k ↔ rv.l.any (fun u => decide (u.xs.length ≠ fl)) = true) (fun ρ w' hw => ?_) (fun k hk => ?_))) | (show Wp _ _ _ _ _ _ _; (refine Wp.go tabOk rfl ?_)) | (show @cmpK _ _ _; (first | refine cmp_yes (by omega) ?_ | refine cmp_no (by omega) ?_ | (refine cmp_both ?_ ?_ <;> intro _))) | (show wrapK _ _ _; (refine wrap_i64 (by omega) (by omega) ?_)) | (show leK _ _ _; (refine le_of (by first | exact Nat.le_refl _ | omega) ?_)) | (show roomK _ _ _; (refine room_of (by first | omega | (dsimp only; omega)) ?_)) | (show ltK _ _ _; (refine lt_of (by omega) ?_)) | (show _ ∧ _; (refine ⟨?_, ?_⟩)) | (show keepK _ _ _ _ _; (refine keep_of (by first | exact List.Sublist.refl _ | exact List.Sublist.cons _ (List.Sublist.refl _) | exact List.Sublist.cons _ (List.Sublist.cons _ (List.Sublist.refl _)) | exact List.Sublist.cons _ (List.Sublist.cons _ (List.Sublist.cons _ (List.Sublist.refl _)))) (by first | exact (fun _ _ h => h) | exact (fun _ _ h => h.1) | exact (fun _ _ h => h.1.1)) ?_)) | (show ownK _ _ _ _ _; (refine own_keep ?_))))
  · refine (indexOff_any w' rv (holds_of_abs hw fun R h => hr.later h) p fb fl fc (holds_of_abs hw fun R h => by rw [cell_same (h _ (cell_block hc)).2]; exact hc)).mono ?_
    rintro e w2 ⟨⟨k, h1, h2⟩, h3⟩
    exact ⟨k, h2, h1, h3⟩
  all_goals (conv => whnf)
  all_goals rename_i h0
  · exact ends_bool (fun _ _ h => h) rfl (hk.1 h0)
  · exact ends_bool (fun _ _ h => h) rfl (Bool.eq_false_iff.2 fun h => h0 (hk.2 h))
end Go.Proofs.Ytdmkdogakbipbaa
/- LK -/
/-! the shelf's contracts of slices.Sort and slices.Compact at this program (laid by the kit's lay-plain tool; numbers of this seat) -/
namespace Go.Proofs.Ytdmkdogakbipbaa
open Go.Shelf
def sort_ren : Go.Shelf.Ren := ⟨fun | 189 => 110 | 125 => 115 | 257 => 114 | 128 => 125 | 129 => 126 | 294 => 116 | 295 => 117 | 296 => 118 | 297 => 119 | 298 => 120 | 299 => 121 | 216 => 122 | 300 => 123 | 301 => 124 | 328 => 127 | 329 => 128 | 330 => 129 | 331 => 130 | 332 => 131 | 215 => 132 | 343 => 133 | n => n, fun | 28 => 33 | 3 => 3 | 46 => 137 | 0 => 0 | 51 => 147 | 53 => 149 | 4 => 4 | 183 => 140 | 182 => 139 | 131 => 144 | 5 => 5 | 9 => 9 | 218 => 150 | 222 => 154 | 228 => 156 | 229 => 157 | n => n, fun | n => n⟩
theorem sortLays : Go.Proofs.Lays.n189 Try.prog sort_ren := {
  mixed := by kernel_rfl
  f125 := Try.func115.trans (congrArg some (by kernel_rfl))
  f128 := Try.func125.trans (congrArg some (by kernel_rfl))
  f129 := Try.func126.trans (congrArg some (by kernel_rfl))
  f189 := Try.func110.trans (congrArg some (by kernel_rfl))
  f215 := Try.func132.trans (congrArg some (by kernel_rfl))
  f216 := Try.func122.trans (congrArg some (by kernel_rfl))
  f257 := Try.func114.trans (congrArg some (by kernel_rfl))
  f294 := Try.func116.trans (congrArg some (by kernel_rfl))
  f295 := Try.func117.trans (congrArg some (by kernel_rfl))
  f296 := Try.func118.trans (congrArg some (by kernel_rfl))
  f297 := Try.func119.trans (congrArg some (by kernel_rfl))
  f298 := Try.func120.trans (congrArg some (by kernel_rfl))
  f299 := Try.func121.trans (congrArg some (by kernel_rfl))
  f300 := Try.func123.trans (congrArg some (by kernel_rfl))
  f301 := Try.func124.trans (congrArg some (by kernel_rfl))
  f328 := Try.func127.trans (congrArg some (by kernel_rfl))
  f329 := Try.func128.trans (congrArg some (by kernel_rfl))
  f330 := Try.func129.trans (congrArg some (by kernel_rfl))
  f331 := Try.func130.trans (congrArg some (by kernel_rfl))
  f332 := Try.func131.trans (congrArg some (by kernel_rfl))
  f343 := Try.func133.trans (congrArg some (by kernel_rfl))
  t0 := Try.underlying0
  a0 := Try.isAgg0
  z0 := Try.sizeOf0
  v0 := Try.zeroValue0
  t3 := Try.underlying3
  a3 := Try.isAgg3
  z3 := Try.sizeOf3
  v3 := Try.zeroValue3
  t4 := Try.underlying4
  a4 := Try.isAgg4
  z4 := Try.sizeOf4
  v4 := Try.zeroValue4
  t5 := Try.underlying5
  a5 := Try.isAgg5
  z5 := Try.sizeOf5
  v5 := Try.zeroValue5
  t9 := Try.underlying9
  a9 := Try.isAgg9
  z9 := Try.sizeOf9
  v9 := Try.zeroValue9
  t28 := Try.underlying33
  a28 := Try.isAgg33
  z28 := Try.sizeOf33
  v28 := Try.zeroValue33
  t46 := Try.underlying137
  a46 := Try.isAgg137
  z46 := Try.sizeOf137
  v46 := Try.zeroValue137
  t51 := Try.underlying147
  a51 := Try.isAgg147
  z51 := Try.sizeOf147
  v51 := Try.zeroValue147
  t53 := Try.underlying149
  a53 := Try.isAgg149
  z53 := Try.sizeOf149
  v53 := Try.zeroValue149
  t131 := Try.underlying144
  a131 := Try.isAgg144
  z131 := Try.sizeOf144
  v131 := Try.zeroValue144
  t182 := Try.underlying139
  a182 := Try.isAgg139
  z182 := Try.sizeOf139
  v182 := Try.zeroValue139
  t183 := Try.underlying140
  a183 := Try.isAgg140
  z183 := Try.sizeOf140
  v183 := Try.zeroValue140
  t218 := Try.underlying150
  a218 := Try.isAgg150
  z218 := Try.sizeOf150
  v218 := Try.zeroValue150
  t222 := Try.underlying154
  a222 := Try.isAgg154
  z222 := Try.sizeOf154
  v222 := Try.zeroValue154
  t228 := Try.underlying156
  a228 := Try.isAgg156
  z228 := Try.sizeOf156
  v228 := Try.zeroValue156
  t229 := Try.underlying157
  a229 := Try.isAgg157
  z229 := Try.sizeOf157
  v229 := Try.zeroValue157 }
def comp_ren : Go.Shelf.Ren := ⟨fun | 20 => 89 | n => n, fun | 22 => 33 | 3 => 3 | 4 => 4 | 0 => 0 | n => n, fun | n => n⟩
theorem compLays : Go.Proofs.Lays2.n20 Try.prog comp_ren := {
  mixed := by kernel_rfl
  f20 := Try.func89.trans (congrArg some (by kernel_rfl))
  t0 := Try.underlying0
  a0 := Try.isAgg0
  z0 := Try.sizeOf0
  v0 := Try.zeroValue0
  t3 := Try.underlying3
  a3 := Try.isAgg3
  z3 := Try.sizeOf3
  v3 := Try.zeroValue3
  t4 := Try.underlying4
  a4 := Try.isAgg4
  z4 := Try.sizeOf4
  v4 := Try.zeroValue4
  t22 := Try.underlying33
  a22 := Try.isAgg33
  z22 := Try.sizeOf33
  v22 := Try.zeroValue33
  i3 := by kernel_rfl }
end Go.Proofs.Ytdmkdogakbipbaa
/- LL -/
namespace Go.Proofs.Ytdmkdogakbipbaa
open Go.RowKit Go.SX Go.Sort
/-! slices.Sort and slices.Compact of one's own numbers: the shelf's contracts as calls of SX -/
theorem heap_put {w : World} {g off n : Nat} {os : Array Obj} {cur : Array Value} {e : TypeId} {fr : Nat × Nat} (d : Array Int) (hb : w.heap[g]? = some (.cells cur e fr)) :
    (grow (putRow (Value.int .i64) (Sort.ahead w n) g off d) os).heap[g]? = some (.cells (putCells (Value.int .i64) off d cur) e fr) := by
  have hg : g < w.heap.size := (Array.getElem?_eq_some_iff.1 hb).1
  rw [heap_grow_old _ _ (by simpa using hg)]
  simp [putRow, mapBlock, Sort.ahead, Array.getElem?_modify, hb, onCells]
theorem step_put {w : World} {g off n : Nat} {os : Array Obj} (d : Array Int) {F : Nat → Prop} (hF : ∀ x, F x ↔ x = g) : Step F w (grow (putRow (Value.int .i64) (Sort.ahead w n) g off d) os) := by
  refine ⟨rfl, rfl, rfl, by simp, fun k hk hne => ?_⟩
  rw [heap_grow_old _ _ (by simpa using hk)]
  have : g ≠ k := fun e => hne ((hF k).2 e.symm)
  simp [putRow, mapBlock, Sort.ahead, Array.getElem?_modify, this]
theorem get_put {off : Nat} {zs : List Int} {cur : Array Value} {i : Nat} (hi : i < zs.length) (hc : off + zs.length ≤ cur.size) : (putCells (Value.int .i64) off zs.toArray cur)[off + i]? = some (.int .i64 zs[i]) := by
  have h1 : off + i < cur.size := by omega
  simp [putCells, h1, hi]
/-- own rows and what the shelf's contracts ask of them -/
theorem holds_own {w : World} {b off : Nat} {c : Array Value} {T : TypeId} {xs : List Int} (hh : w.heap[b]? = some (.cells c T (0, 0))) (hc : ∀ i r, (ints xs)[i]? = some r → ∀ j v, r[j]? = some v → c[off + i * 1 + j]? = some v) : Holds (Value.int .i64) w b off xs.toArray := by
  intro j hj
  have hj' : j < xs.length := by simpa using hj
  have := hc j _ (ints_get hj') 0 _ rfl
  rw [Nat.mul_one, Nat.add_zero] at this
  constructor
  · simp only [World.cell?, hh]
    simp [this, hj']
  · simp [World.frozen?, hh]
theorem call_put {cx : Cx} {f : FuncId} {H : Heap} {S : Asn} {nx i m : Nat} {T : TypeId} {xs ys : List Int} {K : SV → Heap → Asn → Nat → Prop} (hf : ∀ ar w, (callFunc f ar).run cx.P w = .ok (.enter f ar) w) (hi : (i, Ent.rows (ints xs) 1 T) ∈ H) (hm : m = xs.length) (hy : ys.length = xs.length) (res : SX.Loc → Value) (u : SV) (hu : u.lt nx) (hres : ∀ ρ, u.rf ρ = res (ρ i))
    (h0 : ∀ cap w, xs = [] → Calls cx.P f #[.slice none 0 cap] w fun e w' => e = .returned (res ⟨none, cap⟩) ∧ w' = w)
    (hc : ∀ b off cap w, Holds (Value.int .i64) w b off xs.toArray → b < w.heap.size → xs.length ≤ cap → Calls cx.P f #[.slice (some ⟨b, off, none⟩) xs.length cap] w fun e w' => e = .returned (res ⟨some ⟨b, off, none⟩, cap⟩) ∧ ∃ n os, w' = grow (putRow (Value.int .i64) (Sort.ahead w n) b off ys.toArray) os)
    (h : K u (setH i (.rows (ints ys) 1 T) H) S nx) : callK cx f [.os i m] H S nx K := by
  rw [callK_def]
  refine ⟨hf, fun ρ w hw => ?_⟩
  subst hm
  have hA := hw
  obtain ⟨R, φ, hw⟩ := hw
  have hent := hw.ent _ hi
  obtain ⟨hr, hcap, hent⟩ := hent
  rw [ints_length] at hcap
  simp only at hcap
  have hargs : (SV.rfs ρ [.os i xs.length]).toArray = #[.slice (ρ i).base xs.length (ρ i).cap] := rfl
  rw [hargs]
  rcases hent with ⟨hb, hc0, hF⟩ | ⟨b, off, c, hb, hF, hh, hsz, hcell⟩
  · simp only at hb hc0
    have hx : xs = [] := List.eq_nil_of_length_eq_zero (by omega)
    have hy0 : ys = [] := List.eq_nil_of_length_eq_zero (by rw [hy, hx]; rfl)
    subst hx hy0
    rw [hb]
    refine (h0 (ρ i).cap w rfl).mono ?_
    rintro e w' ⟨rfl, rfl⟩
    refine ⟨u, ρ, _, S, nx, ?_, fun _ _ => rfl, Nat.le_refl _, hu, Abs.store hA hi (fun y hy => by simp [Ent.hass] at hy) fun F hF' => ⟨⟨rfl, rfl, rfl, Nat.le_refl _, fun _ _ _ => rfl⟩, hF'⟩, h⟩
    rw [hres, ← hb]
  · simp only at hb hF hsz
    rw [hb]
    have hH := holds_own hh hcell
    have hbl := (Array.getElem?_eq_some_iff.1 hh).1
    refine (hc b off (ρ i).cap w hH hbl hcap).mono ?_
    rintro e w' ⟨rfl, n, os, rfl⟩
    refine ⟨u, ρ, _, S, nx, by rw [hres, ← hb], fun _ _ => rfl, Nat.le_refl _, hu, Abs.store hA hi (fun y hy => by simp [Ent.hass] at hy) fun F hF' => ?_, h⟩
    obtain ⟨_, _, hF2⟩ := hF'
    rcases hF2 with ⟨g1, _, _⟩ | ⟨b', off', c', g1, g2, g3, g4, g5⟩
    · rw [hb] at g1; cases g1
    · rw [hb] at g1
      simp only [Option.some.injEq, Addr.mk.injEq, and_true] at g1
      obtain ⟨rfl, rfl⟩ := g1
      rw [hh] at g3
      obtain rfl : c = c' := by simpa using g3
      refine ⟨step_put _ g2, ints_row, by rw [ints_length, hy]; exact hcap, .inr ⟨b, off, _, hb, g2, heap_put _ hh, by simpa [putCells] using hsz, fun k r hk j v hj => ?_⟩⟩
      have hkl : k < ys.length := by
        have := (List.getElem?_eq_some_iff.1 hk).1
        rwa [ints_length] at this
      rw [ints_get hkl] at hk
      obtain rfl : [Value.int .i64 ys[k]] = r := by simpa using hk
      have hj0 : j = 0 := by
        rcases Nat.eq_zero_or_pos j with h | h
        · exact h
        · rw [List.getElem?_eq_none (by show 1 ≤ j; exact h)] at hj; cases hj
      subst hj0
      obtain rfl : Value.int .i64 ys[k] = v := by simpa using hj
      rw [Nat.mul_one, Nat.add_zero]
      exact get_put hkl (by have : off + (ρ i).cap * 1 ≤ c.size := hsz; omega)
end Go.Proofs.Ytdmkdogakbipbaa
/- LM -/
namespace Go.Proofs.Ytdmkdogakbipbaa
open Go.RowKit Go.SX Go.Sort
/-! places: numbers within 0 .. slots - 1, each once (plain; and what the program asks of the sorted numbers) -/
def placesL (l : List Int) (slots : Int) : Bool := decide ((∀ x ∈ l, 0 ≤ x ∧ x < slots) ∧ l.Nodup)
def srt (zs : List Int) : List Int := zs.mergeSort fun x y => decide (x ≤ y)
theorem srt_perm (zs : List Int) : (srt zs).Perm zs := List.mergeSort_perm _ _
theorem srt_length (zs : List Int) : (srt zs).length = zs.length := (srt_perm zs).length_eq
theorem srt_sorted (zs : List Int) : ∀ i j (h1 : i < (srt zs).length) (h2 : j < (srt zs).length), i < j → (srt zs)[i] ≤ (srt zs)[j] := by
  have h := List.pairwise_mergeSort (le := fun x y : Int => decide (x ≤ y)) (fun a b c h1 h2 => by simp at *; omega) (fun a b => by simp; omega) zs
  rw [List.pairwise_iff_getElem] at h
  intro i j h1 h2 hij
  exact of_decide_eq_true (h i j h1 h2 hij)
theorem compact_length (s : List Int) : (Lib.compact s).length = s.length ↔ ∀ j (h : j < s.length), j = 0 ∨ s[j] ≠ s[j - 1]'(by omega) := by
  have e : (Lib.compact s).length = ((List.range s.length).filter (Lib.keeps s.toArray)).length := by simp [Lib.compact, Lib.compactUpTo]
  rw [e]
  have e2 := List.length_filter_eq_length_iff (l := List.range s.length) (p := Lib.keeps s.toArray)
  rw [List.length_range] at e2
  rw [e2]
  simp only [List.mem_range, Lib.keeps, decide_eq_true_eq]
  constructor
  · intro h j hj
    rcases h j hj with h | h
    · exact .inl h
    · refine .inr ?_
      have h1 : j - 1 < s.length := by omega
      simpa [hj, h1] using h
  · intro h j hj
    rcases h j hj with h | h
    · exact .inl h
    · refine .inr ?_
      have h1 : j - 1 < s.length := by omega
      simpa [hj, h1] using h
theorem nodup_srt (zs : List Int) : (∀ j (h : j < (srt zs).length), j = 0 ∨ (srt zs)[j] ≠ (srt zs)[j - 1]'(by omega)) ↔ zs.Nodup := by
  rw [← (srt_perm zs).nodup_iff]
  constructor
  · intro h
    rw [List.Nodup, List.pairwise_iff_getElem]
    intro i j hi hj hij e
    have h1 := (h j hj).resolve_left (by omega)
    have h2 := srt_sorted zs (j - 1) j (by omega) hj (by omega)
    rcases Nat.lt_or_ge i (j - 1) with g | g
    · have := srt_sorted zs i (j - 1) hi (by omega) g
      omega
    · have : i = j - 1 := by omega
      subst this
      exact h1 e.symm
  · intro h j hj
    rw [List.Nodup, List.pairwise_iff_getElem] at h
    rcases Nat.eq_zero_or_pos j with g | g
    · exact .inl g
    · exact .inr fun e => h (j - 1) j (by omega) hj (by omega) e.symm
theorem places_empty (slots : Int) : placesL [] slots = true := by simp [placesL]
theorem places_plain {zs : List Int} (slots : Int) (hz : 0 < zs.length) : placesL zs slots = true ↔ 0 ≤ (srt zs).getD 0 0 ∧ (srt zs).getD (zs.length - 1) 0 < slots ∧ (Lib.compact (srt zs)).length = zs.length := by
  have hl := srt_length zs
  rw [show (Lib.compact (srt zs)).length = zs.length ↔ zs.Nodup from by rw [← srt_length zs, compact_length, nodup_srt]]
  rw [placesL, decide_eq_true_eq, ← and_assoc]
  refine and_congr_left fun _ => ?_
  have e0 : (srt zs).getD 0 0 = (srt zs)[0] := by simp [List.getD, show 0 < (srt zs).length by omega]
  have e1 : (srt zs).getD (zs.length - 1) 0 = (srt zs)[zs.length - 1] := by simp [List.getD, show zs.length - 1 < (srt zs).length by omega]
  rw [e0, e1]
  constructor
  · intro h
    exact ⟨(h _ ((srt_perm zs).mem_iff.1 (List.getElem_mem _))).1, (h _ ((srt_perm zs).mem_iff.1 (List.getElem_mem _))).2⟩
  · rintro ⟨h1, h2⟩ x hx
    obtain ⟨k, hk, rfl⟩ := List.mem_iff_getElem.1 ((srt_perm zs).mem_iff.2 hx)
    constructor
    · rcases Nat.eq_zero_or_pos k with g | g
      · subst g; exact h1
      · have := srt_sorted zs 0 k (by omega) hk g; omega
    · rcases Nat.lt_or_ge k (zs.length - 1) with g | g
      · have := srt_sorted zs k (zs.length - 1) hk (by omega) g; omega
      · have : k = zs.length - 1 := by omega
        subst this; exact h2
theorem srt_fits {zs : List Int} {p : Int → Prop} (h : ∀ x ∈ zs, p x) : ∀ x ∈ srt zs, p x := fun x hx => h x ((srt_perm zs).mem_iff.1 hx)
end Go.Proofs.Ytdmkdogakbipbaa
/- LN -/
namespace Go.Proofs.Ytdmkdogakbipbaa
open Go.RowKit Go.SX Go.Sort
theorem setH_head {i : Nat} {e e' : Ent} {H : Heap} : setH i e' ((i, e) :: H) = (i, e') :: H := by simp [setH]
/-- slices.Sort of one's own numbers -/
theorem call_sort {cx : Cx} (hP : cx.P = Try.prog) {H : Heap} {S : Asn} {nx i m : Nat} {T : TypeId} {xs : List Int} {K : SV → Heap → Asn → Nat → Prop} (hi : (i, Ent.rows (ints xs) 1 T) ∈ H) (hm : m = xs.length) (hl : xs.length ≤ 1000000)
    (h : K (.c (.tuple #[])) (setH i (.rows (ints (srt xs)) 1 T) H) S nx) : callK cx 110 [.os i m] H S nx K := by
  obtain ⟨P, B, n, tb⟩ := cx
  simp only at hP
  subst hP
  refine call_put Try.call110 hi hm (srt_length xs) (fun _ => .tuple #[]) (.c (.tuple #[])) (SV.lt_c _) (fun _ => rfl) (fun cap w hx => ?_) (fun b off cap w hH hb hc => ?_) h
  · exact Any.slices_Sort_int_none sortLays none cap w
  · exact Any.slices_Sort_int sortLays b off cap xs w hH hb (by omega)
/-- slices.Compact of one's own numbers -/
theorem call_compact {cx : Cx} (hP : cx.P = Try.prog) {H : Heap} {S : Asn} {nx i m : Nat} {T : TypeId} {xs : List Int} {K : SV → Heap → Asn → Nat → Prop} (hi : (i, Ent.rows (ints xs) 1 T) ∈ H) (hin : i < nx) (hm : m = xs.length) (hl : xs.length ≤ 1000000)
    (h : ∀ ys, K (.os i (Lib.compact xs).length) (setH i (.rows (ints ys) 1 T) H) S nx) : callK cx 89 [.os i m] H S nx K := by
  obtain ⟨P, B, n, tb⟩ := cx
  simp only at hP
  subst hP
  have hle : (Lib.compact xs).length ≤ xs.length := by
    simp only [Lib.compact, Lib.compactUpTo, List.length_map]
    refine Nat.le_trans (List.length_filter_le _ _) (by simp)
  refine call_put Try.call89 hi hm (ys := Lib.compact xs ++ List.replicate (xs.length - (Lib.compact xs).length) 0) (by rw [List.length_append, List.length_replicate]; omega) (fun l => .slice l.base (Lib.compact xs).length l.cap) (.os i (Lib.compact xs).length) (SV.lt_os hin) (fun _ => rfl) (fun cap w hx => ?_) (fun b off cap w hH hb hc => ?_) (h _)
  · subst hx
    exact Any.slices_Compact_int_empty compLays none cap w
  · refine (Any.slices_Compact_int compLays b off cap xs w hH (by omega) hc).mono ?_
    rintro e w' ⟨h1, q, rfl⟩
    exact ⟨h1, q, #[], by rw [grow_empty]⟩
def NewW (w : World) (l : List Int) (e : Ending) (w' : World) : Prop := ∃ v, e = .returned v ∧ Ext w w' ∧ NewRows w w' v 1 3 (ints l)
set_option maxHeartbeats 1000000 in
theorem sorted_any (w : World) (Bs : Nat) (base : Option Addr) (cap : Nat) (zs : List Int) (hl : zs.length ≤ 1000000) (hBs : Bs < w.heap.size) (hc : w.cell? ⟨Bs, 0, none⟩ = some (.slice base zs.length cap)) (hI : IntsIn w base zs) :
    Calls Try.prog 87 #[.func (.func 111) #[] #[.pointer (some ⟨Bs, 0, none⟩)]] w (NewW w (srt zs)) := by
  refine calls_of tab tabOk Try.func87 rfl rfl rfl [] (fun _ => ⟨none, 0⟩) [.c (.func (.func 111) #[] #[.pointer (some ⟨Bs, 0, none⟩)])] [] (baseA w) 0 rfl rfl (by show 1 ≤ _; decide) (abs_base w) ?_
  (repeat' ((conv => whnf) <;> first | (show Wp _ _ _ _ _ _ _; (refine Wp.go tabOk rfl ?_)) | (show @cmpK _ _ _; (first | refine cmp_yes (by omega) ?_ | refine cmp_no (by omega) ?_ | (refine cmp_both ?_ ?_ <;> intro _))) | (show wrapK _ _ _; (refine wrap_i64 (by omega) (by omega) ?_)) | (show leK _ _ _; (refine le_of (by first | exact Nat.le_refl _ | omega) ?_)) | (show roomK _ _ _; (refine room_of (by first | omega | (dsimp only; omega)) ?_)) | (show ltK _ _ _; (refine lt_of (by omega) ?_)) | (show _ ∧ _; (refine ⟨?_, ?_⟩)) | (show keepK _ _ _ _ _; (refine keep_of (by first | exact List.Sublist.refl _ | exact List.Sublist.cons _ (List.Sublist.refl _) | exact List.Sublist.cons _ (List.Sublist.cons _ (List.Sublist.refl _)) | exact List.Sublist.cons _ (List.Sublist.cons _ (List.Sublist.cons _ (List.Sublist.refl _)))) (by first | exact (fun _ _ h => h) | exact (fun _ _ h => h.1) | exact (fun _ _ h => h.1.1)) ?_)) | (show ownK _ _ _ _ _; (refine own_keep ?_))))
  refine call_new (f := 109) Try.call109 1 3 (fun _ : Unit => ints zs) (fun _ => True) (fun ρ w' hw => ?_) (fun _ _ => ?_)
  · have he := ext_of_abs hw (fun _ _ h => h)
    refine (collect_any w' Bs base cap zs (by omega) (Nat.lt_of_lt_of_le hBs he.size) ((he.cell (p := ⟨Bs, 0, none⟩) hBs).trans hc) (hI.below he)).mono ?_
    rintro e w2 ⟨v, h1, h2, h3⟩
    exact ⟨(), trivial, v, h1, h3, h2⟩
  (repeat' ((conv => whnf) <;> first | (show callK _ 110 _ _ _ _ _; (refine call_sort rfl (xs := zs) List.mem_cons_self (ints_length zs) hl ?_)) | (show Wp _ _ _ _ _ _ _; (refine Wp.go tabOk rfl ?_)) | (show @cmpK _ _ _; (first | refine cmp_yes (by omega) ?_ | refine cmp_no (by omega) ?_ | (refine cmp_both ?_ ?_ <;> intro _))) | (show wrapK _ _ _; (refine wrap_i64 (by omega) (by omega) ?_)) | (show leK _ _ _; (refine le_of (by first | exact Nat.le_refl _ | omega) ?_)) | (show roomK _ _ _; (refine room_of (by first | omega | (dsimp only; omega)) ?_)) | (show ltK _ _ _; (refine lt_of (by omega) ?_)) | (show _ ∧ _; (refine ⟨?_, ?_⟩)) | (show keepK _ _ _ _ _; (refine keep_of (by first | exact List.Sublist.refl _ | exact List.Sublist.cons _ (List.Sublist.refl _) | exact List.Sublist.cons _ (List.Sublist.cons _ (List.Sublist.refl _)) | exact List.Sublist.cons _ (List.Sublist.cons _ (List.Sublist.cons _ (List.Sublist.refl _)))) (by first | exact (fun _ _ h => h) | exact (fun _ _ h => h.1) | exact (fun _ _ h => h.1.1)) ?_)) | (show ownK _ _ _ _ _; (refine own_keep ?_))))
  all_goals (conv => whnf)
  refine fin_of fun ρ w' hw => ⟨_, rfl, ext_of_abs hw (fun _ _ h => h), ?_⟩
  have := new_of_abs hw (fun _ _ h => h) (i := 0) (xs := ints (srt zs)) (k := 1) (T := 3) (by repeat (first | exact List.mem_cons_self | apply List.mem_cons_of_mem))
  rw [ints_length, srt_length] at this
  rw [ints_length]
  exact this
theorem ro_own {xs : List Int} {j : Nat} {K : Value → Prop} (hj : j < xs.length) (h : K (.int .i64 (xs.getD j 0))) : rowK (ints xs) j 0 K := by
  refine row_of _ _ (ints_get hj) rfl ?_
  have e : xs.getD j 0 = xs[j] := by simp [List.getD, hj]
  rw [← e]; exact h
set_option maxHeartbeats 1000000 in
theorem places_any (w : World) (u : IntsV) (hu : u.ok w) (slots : Int) : Calls Try.prog 60 #[u.val, .int .i64 slots] w fun e w' => e = .returned (.bool (placesL u.xs slots)) ∧ Ext w w' := by
  have hf := hu.few
  have hI := hu.within
  refine calls_of tab tabOk Try.func60 rfl rfl rfl [] (fun _ => ⟨none, 0⟩) [.c u.val, .c (.int .i64 slots)] [] (baseA w) 0 rfl rfl (by show 2 ≤ _; decide) (abs_base w) ?_
  (repeat' ((conv => whnf) <;> first | (show Wp _ _ _ _ _ _ _; (refine Wp.go tabOk rfl ?_)) | (show @cmpK _ _ _; (first | refine cmp_yes (by omega) ?_ | refine cmp_no (by omega) ?_ | (refine cmp_both ?_ ?_ <;> intro _))) | (show wrapK _ _ _; (refine wrap_i64 (by omega) (by omega) ?_)) | (show leK _ _ _; (refine le_of (by first | exact Nat.le_refl _ | omega) ?_)) | (show roomK _ _ _; (refine room_of (by first | omega | (dsimp only; omega)) ?_)) | (show ltK _ _ _; (refine lt_of (by omega) ?_)) | (show _ ∧ _; (refine ⟨?_, ?_⟩)) | (show keepK _ _ _ _ _; (refine keep_of (by first | exact List.Sublist.refl _ | exact List.Sublist.cons _ (List.Sublist.refl _) | exact List.Sublist.cons _ (List.Sublist.cons _ (List.Sublist.refl _)) | exact List.Sublist.cons _ (List.Sublist.cons _ (List.Sublist.cons _ (List.Sublist.refl _)))) (by first | exact (fun _ _ h => h) | exact (fun _ _ h => h.1) | exact (fun _ _ h => h.1.1)) ?_)) | (show ownK _ _ _ _ _; (refine own_keep ?_))))
  refine values_call u.base u.xs.length u.cap rfl (fun Bs => ?_)
  (repeat' ((conv => whnf) <;> first | (show Wp _ _ _ _ _ _ _; (refine Wp.go tabOk rfl ?_)) | (show @cmpK _ _ _; (first | refine cmp_yes (by omega) ?_ | refine cmp_no (by omega) ?_ | (refine cmp_both ?_ ?_ <;> intro _))) | (show wrapK _ _ _; (refine wrap_i64 (by omega) (by omega) ?_)) | (show leK _ _ _; (refine le_of (by first | exact Nat.le_refl _ | omega) ?_)) | (show roomK _ _ _; (refine room_of (by first | omega | (dsimp only; omega)) ?_)) | (show ltK _ _ _; (refine lt_of (by omega) ?_)) | (show _ ∧ _; (refine ⟨?_, ?_⟩)) | (show keepK _ _ _ _ _; (refine keep_of (by first | exact List.Sublist.refl _ | exact List.Sublist.cons _ (List.Sublist.refl _) | exact List.Sublist.cons _ (List.Sublist.cons _ (List.Sublist.refl _)) | exact List.Sublist.cons _ (List.Sublist.cons _ (List.Sublist.cons _ (List.Sublist.refl _)))) (by first | exact (fun _ _ h => h) | exact (fun _ _ h => h.1) | exact (fun _ _ h => h.1.1)) ?_)) | (show ownK _ _ _ _ _; (refine own_keep ?_))))
  refine call_new (f := 87) Try.call87 1 3 (fun _ : Unit => ints (srt u.xs)) (fun _ => True) (fun ρ w' hw => ?_) (fun _ _ => ?_)
  · have he := ext_of_abs hw (fun _ _ h => h.1)
    have hc : w'.cell? ⟨Bs, 0, none⟩ = some (.slice u.base u.xs.length u.cap) := holds_of_abs hw fun R h => by
      rcases h.2.2 with h | ⟨b, off, e, _, hcc⟩
      · simp at h
      · have := hcc 0 _ rfl 0 _ rfl
        simp only [Option.some.injEq, Addr.mk.injEq, and_true] at e
        rw [e.1, e.2]
        simpa using this
    refine (sorted_any w' Bs u.base u.cap u.xs hf (cell_lt hc) hc (hI.below he)).mono ?_
    rintro e w2 ⟨v, h1, h2, h3⟩
    exact ⟨(), trivial, v, h1, h2, h3⟩
  have hsl := srt_length u.xs
  have hil := ints_length (srt u.xs)
  by_cases h0 : u.xs.length = 0
  · have hx : u.xs = [] := List.eq_nil_of_length_eq_zero h0
    (repeat' ((conv => whnf) <;> first | (show @cmpK _ _ _; (first | refine cmp_yes (by rw [ints_length]; omega) ?_)) | (show Wp _ _ _ _ _ _ _; (refine Wp.go tabOk rfl ?_)) | (show @cmpK _ _ _; (first | refine cmp_yes (by omega) ?_ | refine cmp_no (by omega) ?_ | (refine cmp_both ?_ ?_ <;> intro _))) | (show wrapK _ _ _; (refine wrap_i64 (by omega) (by omega) ?_)) | (show leK _ _ _; (refine le_of (by first | exact Nat.le_refl _ | omega) ?_)) | (show roomK _ _ _; (refine room_of (by first | omega | (dsimp only; omega)) ?_)) | (show ltK _ _ _; (refine lt_of (by omega) ?_)) | (show _ ∧ _; (refine ⟨?_, ?_⟩)) | (show keepK _ _ _ _ _; (refine keep_of (by first | exact List.Sublist.refl _ | exact List.Sublist.cons _ (List.Sublist.refl _) | exact List.Sublist.cons _ (List.Sublist.cons _ (List.Sublist.refl _)) | exact List.Sublist.cons _ (List.Sublist.cons _ (List.Sublist.cons _ (List.Sublist.refl _)))) (by first | exact (fun _ _ h => h) | exact (fun _ _ h => h.1) | exact (fun _ _ h => h.1.1)) ?_)) | (show ownK _ _ _ _ _; (refine own_keep ?_))))
    all_goals (conv => whnf)
    all_goals exact ends_bool (fun _ _ h => h.1) rfl (by rw [hx]; exact places_empty slots)
  · have hp := places_plain slots (zs := u.xs) (by omega)
    (repeat' ((conv => whnf) <;> first | (show @cmpK _ _ _; (first | refine cmp_no (by rw [ints_length]; omega) ?_ | (refine cmp_both ?_ ?_ <;> intro _))) | (show idxRowK _ _ _ _ _ _; (first | refine idxRow_of 0 rfl (by rw [ints_length]; omega) (Nat.le_refl _) ?_ | refine idxRow_of (u.xs.length - 1) (by omega) (by omega) (Nat.le_refl _) ?_)) | (show rowK _ _ _ _; (first | refine ro_own (xs := srt u.xs) (j := 0) (by omega) ?_ | refine ro_own (xs := srt u.xs) (j := u.xs.length - 1) (by omega) ?_)) | (show callK _ 89 _ _ _ _ _; (refine call_compact rfl (xs := srt u.xs) List.mem_cons_self (by omega) (ints_length _) (by omega) (fun ys => ?_))) | (show Wp _ _ _ _ _ _ _; (refine Wp.go tabOk rfl ?_)) | (show @cmpK _ _ _; (first | refine cmp_yes (by omega) ?_ | refine cmp_no (by omega) ?_ | (refine cmp_both ?_ ?_ <;> intro _))) | (show wrapK _ _ _; (refine wrap_i64 (by omega) (by omega) ?_)) | (show leK _ _ _; (refine le_of (by first | exact Nat.le_refl _ | omega) ?_)) | (show roomK _ _ _; (refine room_of (by first | omega | (dsimp only; omega)) ?_)) | (show ltK _ _ _; (refine lt_of (by omega) ?_)) | (show _ ∧ _; (refine ⟨?_, ?_⟩)) | (show keepK _ _ _ _ _; (refine keep_of (by first | exact List.Sublist.refl _ | exact List.Sublist.cons _ (List.Sublist.refl _) | exact List.Sublist.cons _ (List.Sublist.cons _ (List.Sublist.refl _)) | exact List.Sublist.cons _ (List.Sublist.cons _ (List.Sublist.cons _ (List.Sublist.refl _)))) (by first | exact (fun _ _ h => h) | exact (fun _ _ h => h.1) | exact (fun _ _ h => h.1.1)) ?_)) | (show ownK _ _ _ _ _; (refine own_keep ?_))))
    all_goals (conv => whnf)
    · exact ends_bool (fun _ _ h => h.1) rfl (hp.2 ⟨by omega, by omega, by omega⟩)
    all_goals exact ends_bool (fun _ _ h => h.1) rfl (Bool.eq_false_iff.2 fun h => by have := hp.1 h; omega)
end Go.Proofs.Ytdmkdogakbipbaa
/- LO -/
namespace Go.Proofs.Ytdmkdogakbipbaa
open Go.RowKit Go.SX
/-! the diagonals, one weight after the other (plain), and how their slices lie in memory -/
abbrev DCell := SX.Loc × List Int
def dRow (p : DCell) : List Value := [.slice p.1.base p.2.length p.1.cap]
def dRows (L : List DCell) : List (List Value) := L.map dRow
def dGrp (L : List DCell) : List Cell1 := L.map fun p => (p.1, p.2.map (Value.int .i64))
def DIs (n : Nat) (p : DCell) : Prop := (p.1 = ⟨none, 0⟩ ∧ p.2 = []) ∨ ((∃ b off, p.1.base = some ⟨b, off, none⟩) ∧ p.2.length = n ∧ n ≤ p.1.cap)
structure DOk (n : Nat) (L : List DCell) : Prop where
  len : L.length = n
  each : ∀ p ∈ L, DIs n p
def stepP (n : Nat) (D : List (List Int)) (s f w : Int) : List (List Int) :=
  if w = 0 then D else D.set ((f - s + n) % n).toNat ((if D.getD ((f - s + n) % n).toNat [] = [] then List.replicate n 0 else D.getD ((f - s + n) % n).toNat []).set s.toNat w)
def innerD (n : Nat) (fr row : List Int) (s : Int) (D : List (List Int)) (k : Nat) : List (List Int) := (List.range k).foldl (fun D i => stepP n D s (fr.getD i 0) (row.getD i 0)) D
def outerD (n : Nat) (rows : List (List Int)) (fr to : List Int) (o : Nat) : List (List Int) := (List.range o).foldl (fun D o => innerD n fr (rows.getD o []) (to.getD o 0) D fr.length) (List.replicate n [])
theorem innerD_succ (n : Nat) (fr row : List Int) (s : Int) (D : List (List Int)) (k : Nat) : innerD n fr row s D (k + 1) = stepP n (innerD n fr row s D k) s (fr.getD k 0) (row.getD k 0) := by simp [innerD, List.range_succ]
theorem outerD_succ (n : Nat) (rows : List (List Int)) (fr to : List Int) (o : Nat) : outerD n rows fr to (o + 1) = innerD n fr (rows.getD o []) (to.getD o 0) (outerD n rows fr to o) fr.length := by simp [outerD, List.range_succ]
theorem dRows_length (L : List DCell) : (dRows L).length = L.length := by simp [dRows]
theorem dRows_get {L : List DCell} {d : Nat} {p : DCell} (h : L[d]? = some p) : (dRows L)[d]? = some (dRow p) := by simp [dRows, h]
theorem dGrp_get {L : List DCell} {d : Nat} {p : DCell} (h : L[d]? = some p) : (dGrp L)[d]? = some (p.1, p.2.map (Value.int .i64)) := by simp [dGrp, h]
theorem dRows_set (L : List DCell) (d : Nat) (p : DCell) : dRows (L.set d p) = (dRows L).set d (dRow p) := by simp [dRows, List.map_set]
theorem dGrp_set (L : List DCell) (d : Nat) (p : DCell) : dGrp (L.set d p) = (dGrp L).set d (p.1, p.2.map (Value.int .i64)) := by simp [dGrp, List.map_set]
theorem DOk.set {n d : Nat} {L : List DCell} {p : DCell} (h : DOk n L) (hp : DIs n p) : DOk n (L.set d p) := ⟨by rw [List.length_set]; exact h.len, fun q hq => by
  rcases List.mem_or_eq_of_mem_set hq with hq | hq
  · exact h.each q hq
  · rw [hq]; exact hp⟩
def nilD (n : Nat) : List DCell := List.replicate n (⟨none, 0⟩, [])
theorem nilD_ok (n : Nat) : DOk n (nilD n) := ⟨by simp [nilD], fun p hp => .inl (by rw [(List.mem_replicate.1 hp).2]; exact ⟨rfl, rfl⟩)⟩
theorem nilD_snd (n : Nat) : (nilD n).map Prod.snd = List.replicate n [] := by simp [nilD]
theorem dRows_nil (n : Nat) : dRows (nilD n) = List.replicate n [.slice none 0 0] := by simp [dRows, nilD, dRow]
theorem dGrp_nil (n : Nat) : dGrp (nilD n) = List.replicate n (⟨none, 0⟩, []) := by simp [dGrp, nilD]
theorem drow_store {L : List DCell} {d : Nat} {p q : DCell} {K : List (List Value) → Prop} (h : L[d]? = some p) (h2 : K (dRows (L.set d q))) : rowStoreK (dRows L) d 0 (dRow q) K := by
  refine rowStore_of _ (dRows_get h) (by show 0 + 1 ≤ 1; omega) ?_
  have e : setFrom (dRow p) 0 (dRow q) = dRow q := rfl
  rw [e, ← dRows_set]; exact h2
theorem snd_getD {L : List DCell} {d : Nat} {p : DCell} (h : L[d]? = some p) : (L.map Prod.snd).getD d [] = p.2 := by simp [List.getD, h]
/-- a step at a nil diagonal -/
theorem step_new {n d : Nat} {L : List DCell} {p : DCell} {s f w : Int} {l : SX.Loc} (hd : L[d]? = some p) (hp : p.2 = []) (hw : w ≠ 0) (hdd : (f - s + n) % n = d) : (L.set d (l, (List.replicate n 0).set s.toNat w)).map Prod.snd = stepP n (L.map Prod.snd) s f w := by
  rw [stepP, if_neg hw, hdd, Int.toNat_natCast, snd_getD hd, if_pos hp, List.map_set]
theorem step_old {n d : Nat} {L : List DCell} {p : DCell} {s f w : Int} (hd : L[d]? = some p) (hp : p.2 ≠ []) (hw : w ≠ 0) (hdd : (f - s + n) % n = d) : (L.set d (p.1, p.2.set s.toNat w)).map Prod.snd = stepP n (L.map Prod.snd) s f w := by
  rw [stepP, if_neg hw, hdd, Int.toNat_natCast, snd_getD hd, if_neg hp, List.map_set]
theorem dpos {n : Nat} {f s : Int} (h : 0 ≤ s ∧ s < n) (hf : 0 ≤ f ∧ f < n) : ∃ d : Nat, (f - s + n) % n = d ∧ d < n ∧ 0 ≤ f - s + n := by
  have h1 : 0 ≤ (f - s + n) % n := Int.emod_nonneg _ (by omega)
  have h2 : (f - s + n) % n < n := Int.emod_lt_of_pos _ (by omega)
  exact ⟨((f - s + n) % n).toNat, by omega, by omega, by omega⟩
theorem nil_yes {P : Program} {t : TypeId} {ti : TI} (h : mkTI P t = some ti) (hk : ti.kind = 1) {ox oy : Operand} {K : SV → Prop} (hK : K (.c (.bool true))) : pureK P (do eqGuard .eql t ox oy (.slice none 0 0) (.slice none 0 0); binOp .eql t (.slice none 0 0) (.slice none 0 0)) K := slice_nil_eql h hk hK
theorem nil_no {P : Program} {t : TypeId} {ti : TI} (h : mkTI P t = some ti) (hk : ti.kind = 1) {ox oy : Operand} {base : Option Addr} {a : Addr} {len cap : Nat} {K : SV → Prop} (e : base = some a) (hK : K (.c (.bool false))) : pureK P (do eqGuard .eql t ox oy (.slice base len cap) (.slice none 0 0); binOp .eql t (.slice base len cap) (.slice none 0 0)) K := by
  subst e; exact slice_nil_eql h hk hK
end Go.Proofs.Ytdmkdogakbipbaa
/- LP -/
namespace Go.Proofs.Ytdmkdogakbipbaa
open Go.RowKit Go.SX
def diagA (x : ShapesV) : Asn where
  holds R w := (rowsA x.base 1 (shRows x.l)).holds R w ∧ ∀ u ∈ x.l, (intsA u).holds R w
  stable := fun hR hw h => ⟨(rowsA _ _ _).stable hR hw h.1, fun u hu => (intsA u).stable hR hw (h.2 u hu)⟩
structure DiagIs (D : List (List Int)) (x : ShapesV) : Prop where
  rows : x.l.map IntsV.xs = D
  sane : ∀ u ∈ x.l, u.sane
  room : x.l.length ≤ x.cap
def DiagPost (w : World) (D : List (List Int)) (er : Int) : Ending → World → Prop := fun e w' => ∃ x : ShapesV, DiagIs D x ∧ e = .returned (.tuple #[x.val, .int .i64 er]) ∧ Ext w w' ∧ (diagA x).holds (fun b => w.heap.size ≤ b ∧ b < w'.heap.size) w'
def diagOk (rows : List (List Int)) (fr to : List Int) (slots : Int) : Prop := 1 ≤ slots ∧ slots ≤ 4096 ∧ rows.length = to.length ∧ placesL fr slots = true ∧ placesL to slots = true ∧ ∀ r ∈ rows, r.length = fr.length
theorem diag_fail {w : World} {B : Base} {H : Heap} {S : Asn} {nx : Nat} (hb : ∀ R w', S.holds R w' → (baseA B.w0).holds R w') (hw0 : B.w0 = w) : finK B (.tup [.c (.slice none 0 0), .c (.int .i64 3)]) H S nx (DiagPost w [] 3) := by
  subst hw0
  refine fin_of fun ρ w' hw => ⟨⟨none, 0, []⟩, ⟨rfl, fun _ h => (by cases h), Nat.le_refl _⟩, rfl, ext_of_abs hw hb, ⟨⟨fun _ h => (by cases h), .inl rfl⟩, fun _ h => by cases h⟩⟩
theorem placesL_of {l : List Int} {slots : Int} (h : placesL l slots = true) : (∀ x ∈ l, 0 ≤ x ∧ x < slots) ∧ l.Nodup := by simpa [placesL] using h
def dInt (p : DCell) : IntsV := ⟨p.1.base, p.1.cap, p.2⟩
theorem diag_end {w : World} {B : Base} {H : Heap} {S : Asn} {nx i g n m : Nat} {L : List DCell} (hb : ∀ R w', S.holds R w' → (baseA B.w0).holds R w') (hw0 : B.w0 = w) (hL : DOk n L) (hf : ∀ p ∈ L, ∀ x ∈ p.2, i64 x) (hn : n ≤ 1000000) (hm : m = n) (hi : (i, Ent.rows (dRows L) 1 33) ∈ H) (hg : (g, Ent.ext (grpO 3 (dGrp L))) ∈ H) :
    finK B (.tup [.os i m, .c (.int .i64 0)]) H S nx (DiagPost w (L.map Prod.snd) 0) := by
  subst hw0 hm
  refine fin_of fun ρ w' hw => ?_
  have hn1 := new_of_abs hw hb hi
  have hsh : dRows L = shRows (L.map dInt) := by simp [dRows, shRows, dRow, dInt, IntsV.val]
  rw [hsh] at hn1
  obtain ⟨base, cap, e, h1, h2⟩ : ∃ base cap, (SV.os i (shRows (L.map dInt)).length).rf ρ = .slice base (L.map dInt).length cap ∧ (L.map dInt).length ≤ cap ∧ (rowsA base 1 (shRows (L.map dInt))).holds (fun b => B.w0.heap.size ≤ b ∧ b < w'.heap.size) w' := by
    obtain ⟨base, cap, e, h1⟩ := newRows_data hn1
    obtain ⟨lc, e2, F, hF, hr, hcap, _⟩ := hn1
    rw [e2] at e
    simp only [Value.slice.injEq] at e
    obtain ⟨e3, _, e4⟩ := e
    refine ⟨base, cap, ?_, ?_, h1⟩
    · rw [e2, e3, e4, shRows_length]
    · rw [← e4]; simpa [shRows_length] using hcap
  have hlen : (shRows (L.map dInt)).length = m := by rw [shRows_length, List.length_map, hL.len]
  rw [hlen] at e
  refine ⟨⟨base, cap, L.map dInt⟩, ⟨by simp [dInt], fun u hu => ?_, h1⟩, ?_, ext_of_abs hw hb, h2, fun u hu => ?_⟩
  · obtain ⟨p, hp, rfl⟩ := List.mem_map.1 hu
    rcases hL.each p hp with ⟨e1, e2⟩ | ⟨_, e2, e3⟩
    · exact ⟨hf p hp, by simp [dInt, e2], by simp [dInt, e2]⟩
    · exact ⟨hf p hp, by simp [dInt, e2, e3], by simp [dInt, e2, hn]⟩
  · have : (SV.tup [.os i m, .c (.int .i64 0)]).rf ρ = .tuple #[(SV.os i m).rf ρ, .int .i64 0] := rfl
    rw [this, e]; rfl
  · obtain ⟨p, hp, rfl⟩ := List.mem_map.1 hu
    rcases hL.each p hp with ⟨e1, e2⟩ | ⟨⟨b, off, e1⟩, e2, e3⟩
    · show (rowsA (dInt p).base 1 (ints (dInt p).xs)).holds _ w'
      have : (dInt p).xs = [] := e2
      rw [this]
      exact ⟨fun r hr => (by cases hr), .inl rfl⟩
    · have hp' : ((p.1, p.2.map (Value.int .i64)) : Cell1) ∈ dGrp L := List.mem_map.2 ⟨p, hp, rfl⟩
      obtain ⟨g1, g2, g3⟩ := grp_new hw hb hg hp' e1
      refine ⟨ints_row, .inr ⟨b, off, e1, ⟨g1, g2⟩, fun k r hk j v hj => ?_⟩⟩
      have hkl : k < p.2.length := by
        have := (List.getElem?_eq_some_iff.1 hk).1
        rwa [ints_length] at this
      have hk' : (ints p.2)[k]? = some r := hk
      rw [ints_get hkl] at hk'
      obtain rfl : [Value.int .i64 p.2[k]] = r := by simpa using hk'
      have hj0 : j = 0 := by
        rcases Nat.eq_zero_or_pos j with h | h
        · exact h
        · rw [List.getElem?_eq_none (by show 1 ≤ j; exact h)] at hj; cases hj
      subst hj0
      have := g3 k (Value.int .i64 p.2[k]) (by simp [hkl])
      obtain rfl : Value.int .i64 p.2[k] = v := by simpa using hj
      simpa using this
end Go.Proofs.Ytdmkdogakbipbaa
/- LQ -/
namespace Go.Proofs.Ytdmkdogakbipbaa
open Go.RowKit Go.SX
instance (rows : List (List Int)) (fr to : List Int) (slots : Int) : Decidable (diagOk rows fr to slots) := by unfold diagOk; infer_instance
def diagL (rows : List (List Int)) (fr to : List Int) (slots : Int) : List (List Int) × Int := if diagOk rows fr to slots then (outerD slots.toNat rows fr to to.length, 0) else ([], 3)
theorem diag_fail2 {w : World} {B : Base} {H : Heap} {S : Asn} {nx : Nat} {rows : List (List Int)} {fr to : List Int} {slots : Int} (hno : ¬ diagOk rows fr to slots) (hb : ∀ R w', S.holds R w' → (baseA B.w0).holds R w') (hw0 : B.w0 = w) : finK B (.tup [.c (.slice none 0 0), .c (.int .i64 3)]) H S nx (DiagPost w (diagL rows fr to slots).1 (diagL rows fr to slots).2) := by
  rw [diagL, if_neg hno]; exact diag_fail hb hw0
theorem containsOff_own {B : Base} {ρ : Nat → SX.Loc} {nx : Nat} {H : Heap} {S : Asn} {w : World} {T : TypeId} {fv : IntsV} (hw : Abs B ρ nx H S w) (he : (0, Ent.box [.c fv.val] T) ∈ H) (rv : ShapesV) (hr : rv.okB w) :
    Calls Try.prog 61 (SV.rfs ρ [.c rv.val, .fn (.func 62) [] [.lp 0 0 0 0]]).toArray w fun e w' => e = .returned (.bool (rv.l.any fun u => decide (u.xs.length ≠ fv.xs.length))) ∧ Ext w w' := by
  obtain ⟨R, φ, hw⟩ := hw
  obtain ⟨b, h1, h2, h3⟩ := hw.ent _ he
  simp only at h1
  have ha : (SV.rfs ρ [.c rv.val, .fn (.func 62) [] [.lp 0 0 0 0]]).toArray = #[rv.val, .func (.func 62) #[] #[.pointer (some ⟨b, 0, none⟩)]] := by
    simp [SV.rfs, SV.rf, h1, Addr.add]
  rw [ha]
  exact containsOff_any w rv hr ⟨b, 0, none⟩ fv.base fv.xs.length fv.cap (by simp [World.cell?, h3, SV.rfs, SV.rf, IntsV.val])
theorem off_all {l : List IntsV} {n : Nat} (h : (l.any fun u => decide (u.xs.length ≠ n)) = false) : ∀ r ∈ l.map IntsV.xs, r.length = n := by
  intro r hr
  obtain ⟨u, hu, rfl⟩ := List.mem_map.1 hr
  have := List.any_eq_false.1 h u hu
  simpa using this
theorem off_some {l : List IntsV} {n : Nat} (h : (l.any fun u => decide (u.xs.length ≠ n)) = true) (hall : ∀ r ∈ l.map IntsV.xs, r.length = n) : False := by
  obtain ⟨u, hu, hx⟩ := List.any_eq_true.1 h
  exact absurd (hall _ (List.mem_map.2 ⟨u, hu, rfl⟩)) (by simpa using hx)
theorem rem_is {x y z : Int} {K : Int → Prop} (h0 : 0 ≤ x) (hy : y ≠ 0) (e : x % y = z) (h : K z) : remK x y K := rem_pos h0 hy (by rw [e]; exact h)
theorem add_frame (b off k : Nat) : (⟨b, off, none⟩ : Addr).add (k * 1) = ⟨b, off + k, none⟩ := by simp [Addr.add]
theorem setD_fits {L : List DCell} {d : Nat} {p : DCell} (h : ∀ p ∈ L, ∀ x ∈ p.2, i64 x) (hp : ∀ x ∈ p.2, i64 x) : ∀ q ∈ L.set d p, ∀ x ∈ q.2, i64 x := fun q hq => by
  rcases List.mem_or_eq_of_mem_set hq with hq | hq
  · exact h q hq
  · rw [hq]; exact hp
theorem set_fits {l : List Int} {k : Nat} {x : Int} (h : ∀ y ∈ l, i64 y) (hx : i64 x) : ∀ y ∈ l.set k x, i64 y := fun y hy => by
  rcases List.mem_or_eq_of_mem_set hy with hy | hy
  · exact h y hy
  · rw [hy]; exact hx
theorem getD_fits {l : List Int} (h : ∀ y ∈ l, i64 y) (k : Nat) : i64 (l.getD k 0) := by
  rcases Nat.lt_or_ge k l.length with g | g
  · have e : l.getD k 0 = l[k] := by simp [List.getD, g]
    rw [e]; exact h _ (List.getElem_mem g)
  · have e : l.getD k 0 = 0 := by simp [List.getD, g]
    rw [e]; exact ⟨by decide, by decide⟩
theorem repl_set (n s : Nat) (x : Int) : (List.replicate n (Value.int .i64 0)).set s (.int .i64 x) = ((List.replicate n (0 : Int)).set s x).map (Value.int .i64) := by simp [List.map_set]
theorem ro_iv {a : Addr} {j : Nat} {S : Asn} {xs : List Int} {v : Int} {K : SV → Prop} (hx : ∀ R w, S.holds R w → RowsI w (some a) 1 (ints xs)) (hj : j < xs.length) (e : xs.getD j 0 = v) (h : K (.c (.int .i64 v))) : roK (a.add (j * 1)) S K := by
  subst e; exact ro_int hx hj h
theorem List.set_eq_self {α : Type} {l : List α} {d : Nat} {x : α} (h : l[d]? = some x) : l.set d x = l := by
  apply List.ext_getElem?
  intro i
  rw [List.getElem?_set]
  split
  · rename_i e; subst e; split
    · exact h.symm
    · rw [List.getElem?_eq_none (by omega)]
  · rfl
set_option maxHeartbeats 2000000 in
theorem diag_any (w : World) (rv : ShapesV) (hr : rv.okB w) (fv tv : IntsV) (hfv : fv.ok w) (htv : tv.ok w) (slots : Int) (hs : i64 slots) :
    Calls Try.prog 31 #[rv.val, fv.val, tv.val, .int .i64 slots] w (DiagPost w (diagL (rv.l.map IntsV.xs) fv.xs tv.xs slots).1 (diagL (rv.l.map IntsV.xs) fv.xs tv.xs slots).2) := by
  have hr1 := hr.few
  have hf1 := hfv.few
  have ht1 := htv.few
  obtain ⟨hs1, hs2⟩ := hs
  have hrl : (rv.l.map IntsV.xs).length = rv.l.length := List.length_map _
  refine calls_of tab tabOk Try.func31 rfl rfl rfl [] (fun _ => ⟨none, 0⟩) [.c rv.val, .c fv.val, .c tv.val, .c (.int .i64 slots)] [] (baseA w) 0 rfl rfl (by show 4 ≤ _; decide) (abs_base w) ?_
  (repeat' ((conv => whnf) <;> first | (show callK _ 60 [.c fv.val, .c (.int .i64 slots)] _ _ _ _; (refine call_bool (f := 60) Try.call60 _ (fun ρ w' hw => places_any w' fv (holds_of_abs hw fun R h => hfv.later h) slots) (fun hp1 => ?_) (fun hp1 => ?_))) | (show callK _ 60 [.c tv.val, .c (.int .i64 slots)] _ _ _ _; (refine call_bool (f := 60) Try.call60 _ (fun ρ w' hw => places_any w' tv (holds_of_abs hw fun R h => htv.later h) slots) (fun hp2 => ?_) (fun hp2 => ?_))) | (show callK _ 61 _ _ _ _ _; (refine call_bool (f := 61) Try.call61 _ (fun ρ w' hw => containsOff_own (fv := fv) hw (by repeat (first | exact List.mem_cons_self | apply List.mem_cons_of_mem)) rv (holds_of_abs hw fun R h => hr.later h)) (fun hp3 => ?_) (fun hp3 => ?_))) | (show makeK _ _ _ _; (refine make_of slots.toNat (by omega) (by omega) (by show 24 * _ ≤ _; omega) (by omega) ?_)) | (show Wp _ _ _ _ _ _ _; (refine Wp.go tabOk rfl ?_)) | (show @cmpK _ _ _; (first | refine cmp_yes (by omega) ?_ | refine cmp_no (by omega) ?_ | (refine cmp_both ?_ ?_ <;> intro _))) | (show wrapK _ _ _; (refine wrap_i64 (by omega) (by omega) ?_)) | (show leK _ _ _; (refine le_of (by first | exact Nat.le_refl _ | omega) ?_)) | (show roomK _ _ _; (refine room_of (by first | omega | (dsimp only; omega)) ?_)) | (show ltK _ _ _; (refine lt_of (by omega) ?_)) | (show _ ∧ _; (refine ⟨?_, ?_⟩)) | (show keepK _ _ _ _ _; (refine keep_of (by first | exact List.Sublist.refl _ | exact List.Sublist.cons _ (List.Sublist.refl _) | exact List.Sublist.cons _ (List.Sublist.cons _ (List.Sublist.refl _)) | exact List.Sublist.cons _ (List.Sublist.cons _ (List.Sublist.cons _ (List.Sublist.refl _)))) (by first | exact (fun _ _ h => h) | exact (fun _ _ h => h.1) | exact (fun _ _ h => h.1.1)) ?_)) | (show ownK _ _ _ _ _; (refine own_keep ?_))))
  all_goals (conv => whnf)
  all_goals first | exact diag_fail2 (fun h => by have := h.1; have := h.2.1; have := h.2.2.1; omega) (fun _ _ h => h) rfl | exact diag_fail2 (fun h => Bool.false_ne_true (hp1.symm.trans h.2.2.2.1)) (fun _ _ h => h) rfl | exact diag_fail2 (fun h => Bool.false_ne_true (hp2.symm.trans h.2.2.2.2.1)) (fun _ _ h => h) rfl | exact diag_fail2 (fun h => off_some hp3 h.2.2.2.2.2) (fun _ _ h => h) rfl | skip
  have hok : diagOk (rv.l.map IntsV.xs) fv.xs tv.xs slots := ⟨by omega, by omega, by omega, hp1, hp2, off_all hp3⟩
  rw [diagL, if_pos hok]
  obtain ⟨n, hn⟩ : ∃ n : Nat, slots = n := ⟨slots.toNat, by omega⟩
  subst hn
  rw [Int.toNat_natCast]
  have hfr := (placesL_of hp1).1
  have hto := (placesL_of hp2).1
  refine Wp.grp 3 n ?_
  refine Wp.loop (σ := Nat × List DCell) 3 (fun s => [(0, .c rv.val), (3, .c (.int .i64 n)), (5, .lp 0 0 0 0), (10, .os 1 n), (49, .c tv.val), (50, .c (.int .i64 tv.xs.length)), (51, .c (.int .i64 s.1))])
    (fun s => [(0, .box [.c fv.val] 33), (1, .rows (dRows s.2) 1 33), (2, .ext (grpO 3 (dGrp s.2)))]) (fun _ => baseA w)
    (fun s => DOk n s.2 ∧ (∀ p ∈ s.2, ∀ x ∈ p.2, i64 x) ∧ s.2.map Prod.snd = outerD n (rv.l.map IntsV.xs) fv.xs tv.xs s.1 ∧ s.1 ≤ tv.xs.length) (fun s => tv.xs.length - s.1) (0, nilD n) [] (by decide) (fun s => ⟨rfl, rfl⟩)
    ⟨nilD_ok n, (fun p hp x hx => by rw [(List.mem_replicate.1 hp).2] at hx; cases hx), by rw [nilD_snd]; rfl, Nat.zero_le _⟩ ⟨rfl, ⟨rfl, rfl, rfl, rfl, rfl, rfl, rfl, trivial⟩, ?_, fun _ _ h => h⟩ ?_
  · show heapInto [] _ [(0, .box [.c fv.val] 33), (1, .rows (dRows (nilD n)) 1 33), (2, .ext (grpO 3 (dGrp (nilD n))))]
    rw [dRows_nil, dGrp_nil]
    exact ⟨(by repeat (first | exact List.mem_cons_self | apply List.mem_cons_of_mem)), (by repeat (first | exact List.mem_cons_self | apply List.mem_cons_of_mem)), (by repeat (first | exact List.mem_cons_self | apply List.mem_cons_of_mem)), trivial⟩
  rintro ⟨o, L⟩ ⟨hL, hLf, hLs, hol⟩
  dsimp only at hL hLf hLs hol
  by_cases hlt : o < tv.xs.length
  · obtain ⟨ta, hta⟩ := htv.base (by omega)
    have htr : ∀ (R : Nat → Prop) w', (baseA w).holds R w' → RowsI w' (some ta) 1 (ints tv.xs) := fun R w' h => by rw [← hta]; exact rows_base h htv.rows
    have hrlt : o < rv.l.length := by omega
    have hsb : 0 ≤ tv.xs.getD o 0 ∧ tv.xs.getD o 0 < n := by
      have e : tv.xs.getD o 0 = tv.xs[o] := by simp [List.getD, hlt]
      rw [e]; exact hto _ (List.getElem_mem hlt)
    obtain ⟨sv, hsv⟩ : ∃ sv, tv.xs.getD o 0 = sv := ⟨_, rfl⟩
    (repeat' ((conv => whnf) <;> first | (show idxK _ _ _ _ _; (refine idx_of ta o hta rfl hlt ?_)) | (show roK _ _ _; (refine ro_int htr (j := o) hlt ?_)) | (show Wp _ _ _ _ _ _ _; (refine Wp.go tabOk rfl ?_)) | (show @cmpK _ _ _; (first | refine cmp_yes (by omega) ?_ | refine cmp_no (by omega) ?_ | (refine cmp_both ?_ ?_ <;> intro _))) | (show wrapK _ _ _; (refine wrap_i64 (by omega) (by omega) ?_)) | (show leK _ _ _; (refine le_of (by first | exact Nat.le_refl _ | omega) ?_)) | (show roomK _ _ _; (refine room_of (by first | omega | (dsimp only; omega)) ?_)) | (show ltK _ _ _; (refine lt_of (by omega) ?_)) | (show _ ∧ _; (refine ⟨?_, ?_⟩)) | (show keepK _ _ _ _ _; (refine keep_of (by first | exact List.Sublist.refl _ | exact List.Sublist.cons _ (List.Sublist.refl _) | exact List.Sublist.cons _ (List.Sublist.cons _ (List.Sublist.refl _)) | exact List.Sublist.cons _ (List.Sublist.cons _ (List.Sublist.cons _ (List.Sublist.refl _)))) (by first | exact (fun _ _ h => h) | exact (fun _ _ h => h.1) | exact (fun _ _ h => h.1.1)) ?_)) | (show ownK _ _ _ _ _; (refine own_keep ?_))))
    all_goals (conv => whnf)
    have hrow : (rv.l.map IntsV.xs).getD o [] = rv.l[o].xs := by simp [List.getD, hrlt]
    have hrlen : rv.l[o].xs.length = fv.xs.length := off_all hp3 _ (List.mem_map.2 ⟨_, List.getElem_mem hrlt, rfl⟩)
    have hro := hr.each rv.l[o] (List.getElem_mem hrlt)
    obtain ⟨ra, hra⟩ : ∃ a, rv.base = some a := base_some (j := o) hr.rows (by rw [shRows_length]; exact hrlt)
    rw [hsv] at hsb ⊢
    refine Wp.loop (σ := Nat × List DCell) 3 (fun s => [(0, .c rv.val), (3, .c (.int .i64 n)), (5, .lp 0 0 0 0), (10, .os 1 n), (49, .c tv.val), (50, .c (.int .i64 tv.xs.length)), (51, .c (.int .i64 o)), (11, .c (.int .i64 o)), (12, .c (.int .i64 sv)), (56, .c fv.val), (57, .c (.int .i64 fv.xs.length)), (58, .c (.int .i64 s.1))])
      (fun s => [(0, .box [.c fv.val] 33), (1, .rows (dRows s.2) 1 33), (2, .ext (grpO 3 (dGrp s.2)))]) (fun _ => baseA w)
      (fun s => DOk n s.2 ∧ (∀ p ∈ s.2, ∀ x ∈ p.2, i64 x) ∧ s.2.map Prod.snd = innerD n fv.xs rv.l[o].xs sv (outerD n (rv.l.map IntsV.xs) fv.xs tv.xs o) s.1 ∧ s.1 ≤ fv.xs.length) (fun s => fv.xs.length - s.1) (0, L) [] (by decide) (fun s => ⟨rfl, rfl⟩)
      ⟨hL, hLf, hLs, Nat.zero_le _⟩ ⟨rfl, ⟨rfl, rfl, rfl, rfl, rfl, rfl, rfl, rfl, rfl, rfl, rfl, rfl, trivial⟩, ⟨(by repeat (first | exact List.mem_cons_self | apply List.mem_cons_of_mem)), (by repeat (first | exact List.mem_cons_self | apply List.mem_cons_of_mem)), (by repeat (first | exact List.mem_cons_self | apply List.mem_cons_of_mem)), trivial⟩, fun _ _ h => h⟩ ?_
    clear hL hLf hLs
    rintro ⟨i, M⟩ ⟨hM, hMf, hMs, hil⟩
    dsimp only at hM hMf hMs hil
    by_cases hli : i < fv.xs.length
    · obtain ⟨fa, hfa⟩ := hfv.base (by omega)
      have hfr' : ∀ (R : Nat → Prop) w', (baseA w).holds R w' → RowsI w' (some fa) 1 (ints fv.xs) := fun R w' h => by rw [← hfa]; exact rows_base h hfv.rows
      obtain ⟨wa, hwa⟩ := hro.base (by omega)
      have hwr : ∀ (R : Nat → Prop) w', (baseA w).holds R w' → RowsI w' (some wa) 1 (ints rv.l[o].xs) := fun R w' h => by rw [← hwa]; exact rows_base h hro.rows
      have hfb : 0 ≤ fv.xs.getD i 0 ∧ fv.xs.getD i 0 < n := by
        have e : fv.xs.getD i 0 = fv.xs[i] := by simp [List.getD, hli]
        rw [e]; exact hfr _ (List.getElem_mem hli)
      have hwf := getD_fits hro.fits i
      have hstep := innerD_succ n fv.xs rv.l[o].xs sv (outerD n (rv.l.map IntsV.xs) fv.xs tv.xs o) i
      rw [← hMs] at hstep
      obtain ⟨fi, hfi⟩ : ∃ x, fv.xs.getD i 0 = x := ⟨_, rfl⟩
      obtain ⟨wi, hwi⟩ : ∃ x, rv.l[o].xs.getD i 0 = x := ⟨_, rfl⟩
      rw [hfi] at hfb hstep
      rw [hwi] at hwf hstep
      by_cases hw0 : wi = 0
      · (repeat' ((conv => whnf) <;> first | (show idxK _ _ _ _ _; (first | refine idx_of fa i hfa rfl hli ?_ | refine idx_of ra o hra rfl hrlt ?_ | refine idx_of wa i hwa rfl (by omega) ?_)) | (show roK _ _ _; (first | refine ro_iv hfr' (j := i) hli hfi ?_ | refine ro_row0 (fun R w' h => by rw [← hra]; exact rows_base h hr.rows) _ _ (shRows_get hrlt) rfl ?_ | refine ro_iv hwr (j := i) (by omega) hwi ?_)) | (show Wp _ _ _ _ _ _ _; (refine Wp.go tabOk rfl ?_)) | (show @cmpK _ _ _; (first | refine cmp_yes (by omega) ?_ | refine cmp_no (by omega) ?_ | (refine cmp_both ?_ ?_ <;> intro _))) | (show wrapK _ _ _; (refine wrap_i64 (by omega) (by omega) ?_)) | (show leK _ _ _; (refine le_of (by first | exact Nat.le_refl _ | omega) ?_)) | (show roomK _ _ _; (refine room_of (by first | omega | (dsimp only; omega)) ?_)) | (show ltK _ _ _; (refine lt_of (by omega) ?_)) | (show _ ∧ _; (refine ⟨?_, ?_⟩)) | (show keepK _ _ _ _ _; (refine keep_of (by first | exact List.Sublist.refl _ | exact List.Sublist.cons _ (List.Sublist.refl _) | exact List.Sublist.cons _ (List.Sublist.cons _ (List.Sublist.refl _)) | exact List.Sublist.cons _ (List.Sublist.cons _ (List.Sublist.cons _ (List.Sublist.refl _)))) (by first | exact (fun _ _ h => h) | exact (fun _ _ h => h.1) | exact (fun _ _ h => h.1.1)) ?_)) | (show ownK _ _ _ _ _; (refine own_keep ?_))))
        all_goals (conv => whnf)
        exact ⟨(i + 1, M), [], ⟨hM, hMf, by rw [hstep, stepP, if_pos hw0], hli⟩, by show fv.xs.length - (i + 1) < fv.xs.length - i; omega, rfl, ⟨rfl, rfl, rfl, rfl, rfl, rfl, rfl, rfl, rfl, rfl, rfl, rfl, trivial⟩, ⟨(by repeat (first | exact List.mem_cons_self | apply List.mem_cons_of_mem)), (by repeat (first | exact List.mem_cons_self | apply List.mem_cons_of_mem)), (by repeat (first | exact List.mem_cons_self | apply List.mem_cons_of_mem)), trivial⟩, fun _ _ h => h⟩
      · obtain ⟨d, hdd, hdn, hd0⟩ := dpos hsb hfb
        have hMd : d < M.length := by rw [hM.len]; exact hdn
        have hdl := dRows_length M
        obtain ⟨q, hq⟩ : ∃ q, M[d]? = some q := ⟨_, List.getElem?_eq_getElem hMd⟩
        have hqm := List.mem_of_getElem? hq
        obtain ⟨sn, hsn⟩ : ∃ k : Nat, sv = k := ⟨sv.toNat, by omega⟩
        have hsn2 : sv.toNat = sn := by omega
        rcases hM.each q hqm with ⟨e1, e2⟩ | ⟨⟨b, off, e1⟩, e2, e3⟩
        · obtain ⟨ql, qv⟩ := q
          simp only at e1 e2
          subst e1 e2
          (repeat' ((conv => whnf) <;> first | (show idxK _ _ _ _ _; (first | refine idx_of fa i hfa rfl hli ?_ | refine idx_of ra o hra rfl hrlt ?_ | refine idx_of wa i hwa rfl (by omega) ?_)) | (show roK _ _ _; (first | refine ro_iv hfr' (j := i) hli hfi ?_ | refine ro_row0 (fun R w' h => by rw [← hra]; exact rows_base h hr.rows) _ _ (shRows_get hrlt) rfl ?_ | refine ro_iv hwr (j := i) (by omega) hwi ?_)) | (show remK _ _ _; (refine rem_is hd0 (by omega) hdd ?_)) | (show idxRowK _ _ _ _ _ _; (refine idxRow_of d rfl hdn (Nat.le_of_eq (hdl.trans hM.len).symm) ?_)) | (show rowK _ _ _ _; (refine row_of _ _ (dRows_get hq) rfl ?_)) | (show pureK _ _ _; (refine nil_yes (ti 33 rfl) rfl ?_)) | (show makeK _ _ _ _; (refine make_of n rfl rfl (by show 8 * _ ≤ _; omega) (by omega) ?_)) | (show Wp _ _ _ _ _ _ _; (refine Wp.go tabOk rfl ?_)) | (show @cmpK _ _ _; (first | refine cmp_yes (by omega) ?_ | refine cmp_no (by omega) ?_ | (refine cmp_both ?_ ?_ <;> intro _))) | (show wrapK _ _ _; (refine wrap_i64 (by omega) (by omega) ?_)) | (show leK _ _ _; (refine le_of (by first | exact Nat.le_refl _ | omega) ?_)) | (show roomK _ _ _; (refine room_of (by first | omega | (dsimp only; omega)) ?_)) | (show ltK _ _ _; (refine lt_of (by omega) ?_)) | (show _ ∧ _; (refine ⟨?_, ?_⟩)) | (show keepK _ _ _ _ _; (refine keep_of (by first | exact List.Sublist.refl _ | exact List.Sublist.cons _ (List.Sublist.refl _) | exact List.Sublist.cons _ (List.Sublist.cons _ (List.Sublist.refl _)) | exact List.Sublist.cons _ (List.Sublist.cons _ (List.Sublist.cons _ (List.Sublist.refl _)))) (by first | exact (fun _ _ h => h) | exact (fun _ _ h => h.1) | exact (fun _ _ h => h.1.1)) ?_))))
          all_goals (conv => whnf)
          refine own_group (g := 2) (d := d) (us := []) (l0 := ⟨none, 0⟩) (L := dGrp M) (vs := List.replicate n (.int .i64 0)) (by repeat (first | exact List.mem_cons_self | apply List.mem_cons_of_mem)) (dGrp_get hq) rfl rfl (by rw [oneRows, List.map_replicate]) (by rw [List.length_replicate]; omega) (fun l hlc hlb => ?_)
          rw [List.length_replicate] at hlc
          obtain ⟨b, off, hlb⟩ := hlb
          have hset : ((dRows M).set d [.slice l.base n l.cap])[d]? = some [.slice l.base n l.cap] := List.getElem?_set_self (by rw [hdl]; exact hMd)
          have hgs : ((dGrp M).set d (l, List.replicate n (.int .i64 0)))[d]? = some (l, List.replicate n (.int .i64 0)) := List.getElem?_set_self (by rw [dGrp, List.length_map]; exact hMd)
          (repeat' ((conv => whnf) <;> first | (show rowStoreK _ _ _ _ _; (refine rowStore_of _ (dRows_get hq) (by show 0 + 1 ≤ 1; omega) ?_)) | (show idxRowK _ _ _ _ _ _; (first | refine idxRow_of d rfl hdn (Nat.le_of_eq (hdl.trans hM.len).symm) ?_ | refine idxRow_of d rfl hdn (Nat.le_of_eq (by rw [List.length_set]; exact (hdl.trans hM.len).symm)) ?_)) | (show rowK _ _ _ _; (refine row_of _ _ hset rfl ?_)) | (show idxK _ _ _ _ _; (refine idx_of ⟨b, off, none⟩ sn hlb hsn (by omega) ?_)) | (show wrK _ _ _ _ _; (refine wr_group (g := 2) (d := d) (s := sn) (l := l) (vs := List.replicate n (.int .i64 0)) (by repeat (first | exact List.mem_cons_self | apply List.mem_cons_of_mem)) hgs hlb (by rw [List.length_replicate]; omega) (add_frame b off sn) ?_)) | (show Wp _ _ _ _ _ _ _; (refine Wp.go tabOk rfl ?_)) | (show @cmpK _ _ _; (first | refine cmp_yes (by omega) ?_ | refine cmp_no (by omega) ?_ | (refine cmp_both ?_ ?_ <;> intro _))) | (show wrapK _ _ _; (refine wrap_i64 (by omega) (by omega) ?_)) | (show leK _ _ _; (refine le_of (by first | exact Nat.le_refl _ | omega) ?_)) | (show roomK _ _ _; (refine room_of (by first | omega | (dsimp only; omega)) ?_)) | (show ltK _ _ _; (refine lt_of (by omega) ?_)) | (show _ ∧ _; (refine ⟨?_, ?_⟩)) | (show keepK _ _ _ _ _; (refine keep_of (by first | exact List.Sublist.refl _ | exact List.Sublist.cons _ (List.Sublist.refl _) | exact List.Sublist.cons _ (List.Sublist.cons _ (List.Sublist.refl _)) | exact List.Sublist.cons _ (List.Sublist.cons _ (List.Sublist.cons _ (List.Sublist.refl _)))) (by first | exact (fun _ _ h => h) | exact (fun _ _ h => h.1) | exact (fun _ _ h => h.1.1)) ?_)) | (show ownK _ _ _ _ _; (refine own_keep ?_))))
          all_goals (conv => whnf)
          have eg : dGrp (M.set d (l, (List.replicate n 0).set sn wi)) = ((dGrp M).set d (l, List.replicate n (.int .i64 0))).set d (l, (List.replicate n (Value.int .i64 0)).set sn (.int .i64 wi)) := by rw [dGrp_set, List.set_set, repl_set]
          have er : dRows (M.set d (l, (List.replicate n 0).set sn wi)) = (dRows M).set d [.slice l.base n l.cap] := by rw [dRows_set]; simp [dRow, List.length_replicate]
          have hlenV : ((l, (List.replicate n 0).set sn wi) : DCell).2.length = n := by simp [List.length_replicate]
          refine ⟨(i + 1, M.set d (l, (List.replicate n 0).set sn wi)), [], ⟨hM.set (.inr ⟨⟨b, off, hlb⟩, hlenV, hlc⟩), setD_fits hMf (set_fits (fun y hy => by rw [(List.mem_replicate.1 hy).2]; exact ⟨by decide, by decide⟩) hwf), by rw [hstep]; rw [← step_new hq rfl hw0 hdd, hsn2], hli⟩, by show fv.xs.length - (i + 1) < fv.xs.length - i; omega, rfl, ⟨rfl, rfl, rfl, rfl, rfl, rfl, rfl, rfl, rfl, rfl, rfl, rfl, trivial⟩, ?_, fun _ _ h => h⟩
          show heapInto [] _ [(0, .box [.c fv.val] 33), (1, .rows (dRows (M.set d (l, (List.replicate n 0).set sn wi))) 1 33), (2, .ext (grpO 3 (dGrp (M.set d (l, (List.replicate n 0).set sn wi)))))]
          rw [eg, er]
          exact ⟨(by repeat (first | exact List.mem_cons_self | apply List.mem_cons_of_mem)), (by repeat (first | exact List.mem_cons_self | apply List.mem_cons_of_mem)), (by repeat (first | exact List.mem_cons_self | apply List.mem_cons_of_mem)), trivial⟩
        · obtain ⟨ql, qv⟩ := q
          simp only at e1 e2 e3
          (repeat' ((conv => whnf) <;> first | (show idxK _ _ _ _ _; (first | refine idx_of fa i hfa rfl hli ?_ | refine idx_of ra o hra rfl hrlt ?_ | refine idx_of wa i hwa rfl (by omega) ?_ | refine idx_of ⟨b, off, none⟩ sn e1 hsn (show sn < qv.length by omega) ?_)) | (show roK _ _ _; (first | refine ro_iv hfr' (j := i) hli hfi ?_ | refine ro_row0 (fun R w' h => by rw [← hra]; exact rows_base h hr.rows) _ _ (shRows_get hrlt) rfl ?_ | refine ro_iv hwr (j := i) (by omega) hwi ?_)) | (show remK _ _ _; (refine rem_is hd0 (by omega) hdd ?_)) | (show idxRowK _ _ _ _ _ _; (refine idxRow_of d rfl hdn (Nat.le_of_eq (hdl.trans hM.len).symm) ?_)) | (show rowK _ _ _ _; (refine row_of _ _ (dRows_get hq) rfl ?_)) | (show pureK _ _ _; (refine nil_no (ti 33 rfl) rfl e1 ?_)) | (show wrK _ _ _ _ _; (refine wr_group (g := 2) (d := d) (s := sn) (l := ql) (vs := qv.map (Value.int .i64)) (by repeat (first | exact List.mem_cons_self | apply List.mem_cons_of_mem)) (dGrp_get hq) e1 (by rw [List.length_map]; omega) (add_frame b off sn) ?_)) | (show Wp _ _ _ _ _ _ _; (refine Wp.go tabOk rfl ?_)) | (show @cmpK _ _ _; (first | refine cmp_yes (by omega) ?_ | refine cmp_no (by omega) ?_ | (refine cmp_both ?_ ?_ <;> intro _))) | (show wrapK _ _ _; (refine wrap_i64 (by omega) (by omega) ?_)) | (show leK _ _ _; (refine le_of (by first | exact Nat.le_refl _ | omega) ?_)) | (show roomK _ _ _; (refine room_of (by first | omega | (dsimp only; omega)) ?_)) | (show ltK _ _ _; (refine lt_of (by omega) ?_)) | (show _ ∧ _; (refine ⟨?_, ?_⟩)) | (show keepK _ _ _ _ _; (refine keep_of (by first | exact List.Sublist.refl _ | exact List.Sublist.cons _ (List.Sublist.refl _) | exact List.Sublist.cons _ (List.Sublist.cons _ (List.Sublist.refl _)) | exact List.Sublist.cons _ (List.Sublist.cons _ (List.Sublist.cons _ (List.Sublist.refl _)))) (by first | exact (fun _ _ h => h) | exact (fun _ _ h => h.1) | exact (fun _ _ h => h.1.1)) ?_)) | (show ownK _ _ _ _ _; (refine own_keep ?_))))
          all_goals (conv => whnf)
          have eg : dGrp (M.set d (ql, qv.set sn wi)) = (dGrp M).set d (ql, (qv.map (Value.int .i64)).set sn (.int .i64 wi)) := by rw [dGrp_set, List.map_set]
          have er : dRows (M.set d (ql, qv.set sn wi)) = (dRows M).set d [.slice ql.base n ql.cap] := by rw [dRows_set]; simp [dRow, e2]
          have hlenV : ((ql, qv.set sn wi) : DCell).2.length = n := by simp [e2]
          refine ⟨(i + 1, M.set d (ql, qv.set sn wi)), [], ⟨hM.set (.inr ⟨⟨b, off, e1⟩, hlenV, e3⟩), setD_fits hMf (set_fits (hMf _ hqm) hwf), by rw [hstep]; rw [← step_old hq (fun h0 => by have := congrArg List.length h0; simp only [List.length_nil] at this; omega) hw0 hdd, hsn2], hli⟩, by show fv.xs.length - (i + 1) < fv.xs.length - i; omega, rfl, ⟨rfl, rfl, rfl, rfl, rfl, rfl, rfl, rfl, rfl, rfl, rfl, rfl, trivial⟩, ?_, fun _ _ h => h⟩
          show heapInto [] _ [(0, .box [.c fv.val] 33), (1, .rows (dRows (M.set d (ql, qv.set sn wi))) 1 33), (2, .ext (grpO 3 (dGrp (M.set d (ql, qv.set sn wi)))))]
          rw [eg, er, show (dRows M).set d [.slice ql.base n ql.cap] = dRows M from ?_]
          exact ⟨(by repeat (first | exact List.mem_cons_self | apply List.mem_cons_of_mem)), (by repeat (first | exact List.mem_cons_self | apply List.mem_cons_of_mem)), (by repeat (first | exact List.mem_cons_self | apply List.mem_cons_of_mem)), trivial⟩
          rw [← e2, show [Value.slice ql.base qv.length ql.cap] = dRow (ql, qv) from rfl, ← dRows_set, List.set_eq_self hq]
    · (repeat' ((conv => whnf) <;> first | (show Wp _ _ _ _ _ _ _; (refine Wp.go tabOk rfl ?_)) | (show @cmpK _ _ _; (first | refine cmp_yes (by omega) ?_ | refine cmp_no (by omega) ?_ | (refine cmp_both ?_ ?_ <;> intro _))) | (show wrapK _ _ _; (refine wrap_i64 (by omega) (by omega) ?_)) | (show leK _ _ _; (refine le_of (by first | exact Nat.le_refl _ | omega) ?_)) | (show roomK _ _ _; (refine room_of (by first | omega | (dsimp only; omega)) ?_)) | (show ltK _ _ _; (refine lt_of (by omega) ?_)) | (show _ ∧ _; (refine ⟨?_, ?_⟩)) | (show keepK _ _ _ _ _; (refine keep_of (by first | exact List.Sublist.refl _ | exact List.Sublist.cons _ (List.Sublist.refl _) | exact List.Sublist.cons _ (List.Sublist.cons _ (List.Sublist.refl _)) | exact List.Sublist.cons _ (List.Sublist.cons _ (List.Sublist.cons _ (List.Sublist.refl _)))) (by first | exact (fun _ _ h => h) | exact (fun _ _ h => h.1) | exact (fun _ _ h => h.1.1)) ?_)) | (show ownK _ _ _ _ _; (refine own_keep ?_))))
      all_goals (conv => whnf)
      obtain rfl : i = fv.xs.length := by omega
      exact ⟨(o + 1, M), [], ⟨hM, hMf, by rw [hMs, outerD_succ, hrow, hsv], hlt⟩, by show tv.xs.length - (o + 1) < tv.xs.length - o; omega, rfl, ⟨rfl, rfl, rfl, rfl, rfl, rfl, rfl, trivial⟩, ⟨(by repeat (first | exact List.mem_cons_self | apply List.mem_cons_of_mem)), (by repeat (first | exact List.mem_cons_self | apply List.mem_cons_of_mem)), (by repeat (first | exact List.mem_cons_self | apply List.mem_cons_of_mem)), trivial⟩, fun _ _ h => h⟩
  · (repeat' ((conv => whnf) <;> first | (show Wp _ _ _ _ _ _ _; (refine Wp.go tabOk rfl ?_)) | (show @cmpK _ _ _; (first | refine cmp_yes (by omega) ?_ | refine cmp_no (by omega) ?_ | (refine cmp_both ?_ ?_ <;> intro _))) | (show wrapK _ _ _; (refine wrap_i64 (by omega) (by omega) ?_)) | (show leK _ _ _; (refine le_of (by first | exact Nat.le_refl _ | omega) ?_)) | (show roomK _ _ _; (refine room_of (by first | omega | (dsimp only; omega)) ?_)) | (show ltK _ _ _; (refine lt_of (by omega) ?_)) | (show _ ∧ _; (refine ⟨?_, ?_⟩)) | (show keepK _ _ _ _ _; (refine keep_of (by first | exact List.Sublist.refl _ | exact List.Sublist.cons _ (List.Sublist.refl _) | exact List.Sublist.cons _ (List.Sublist.cons _ (List.Sublist.refl _)) | exact List.Sublist.cons _ (List.Sublist.cons _ (List.Sublist.cons _ (List.Sublist.refl _)))) (by first | exact (fun _ _ h => h) | exact (fun _ _ h => h.1) | exact (fun _ _ h => h.1.1)) ?_)) | (show ownK _ _ _ _ _; (refine own_keep ?_))))
    all_goals (conv => whnf)
    obtain rfl : o = tv.xs.length := by omega
    have := diag_end (w := w) (B := ⟨w, []⟩) (H := [(0, .box [.c fv.val] 33), (1, .rows (dRows L) 1 33), (2, .ext (grpO 3 (dGrp L)))]) (S := baseA w) (nx := 3) (i := 1) (g := 2) (n := n) (m := n) (fun _ _ h => h) rfl hL hLf (by omega) rfl (by repeat (first | exact List.mem_cons_self | apply List.mem_cons_of_mem)) (by repeat (first | exact List.mem_cons_self | apply List.mem_cons_of_mem))
    rw [hLs] at this
    exact this
end Go.Proofs.Ytdmkdogakbipbaa
/- LR -/
namespace Go.Proofs.Ytdmkdogakbipbaa
open Go.RowKit Go.SX
/-! slots of a tensor (plain) -/
def up : Nat → Int → Int → Int
  | 0, _, p => p
  | k + 1, size, p => if p < size then up k size (p * 2) else p
def sizeL (xs : List Int) (layout : Int) : Int := if layout = 1 ∧ xs.length = 3 then xs.getD 1 0 * xs.getD 2 0 else entries xs
def pitchL (xs : List Int) (layout : Int) : Int := if layout = 1 ∧ xs.length = 3 then up 7 (xs.getD 1 0 * xs.getD 2 0) 1 else entries xs
def placeL (size pitch : Int) (i : Nat) : Int := (i : Int) / size * pitch + i % size
def rangeL (size pitch : Int) (k : Nat) : List Int := (List.range k).map (placeL size pitch)
def slotsL (xs : List Int) (layout slots : Int) : List Int × Int :=
  if entries xs = 0 ∨ layout < 0 ∨ 1 < layout then ([], 4)
  else if slots ≤ placeL (sizeL xs layout) (pitchL xs layout) ((entries xs).toNat - 1) then ([], 7)
  else (rangeL (sizeL xs layout) (pitchL xs layout) (entries xs).toNat, 0)
theorem rangeL_length (size pitch : Int) (k : Nat) : (rangeL size pitch k).length = k := by simp [rangeL]
theorem rangeL_succ (size pitch : Int) (k : Nat) : rangeL size pitch (k + 1) = rangeL size pitch k ++ [placeL size pitch k] := by simp [rangeL, List.range_succ]
theorem rangeL_getD (size pitch : Int) {k i : Nat} (h : i < k) : (rangeL size pitch k).getD i 0 = placeL size pitch i := by simp [rangeL, List.getD, h]
theorem up_ge : ∀ (k : Nat) (size p : Int), 1 ≤ p → p * 2 ^ k = 128 → size ≤ 64 → size ≤ up k size p ∧ 1 ≤ up k size p ∧ up k size p ≤ 128
  | 0, size, p, h1, h2, h3 => by
    have : p = 128 := by simpa using h2
    simp only [up]; omega
  | k + 1, size, p, h1, h2, h3 => by
    rw [up]
    split
    · exact up_ge k size (p * 2) (by omega) (by rw [Int.mul_assoc, ← Int.pow_succ']; exact h2) h3
    · refine ⟨by omega, by omega, ?_⟩
      have h4 : (1 : Int) ≤ 2 ^ (k + 1) := by have : (0 : Int) < 2 ^ (k + 1) := Int.pow_pos (by decide); omega
      have : p * 1 ≤ p * 2 ^ (k + 1) := Int.mul_le_mul_of_nonneg_left h4 (by omega)
      omega
theorem entries_three {xs : List Int} (h : entries xs ≠ 0) (h3 : xs.length = 3) : entries xs = xs.getD 0 0 * (xs.getD 1 0 * xs.getD 2 0) ∧ 1 ≤ xs.getD 0 0 ∧ 1 ≤ xs.getD 1 0 ∧ 1 ≤ xs.getD 2 0 := by
  match xs, h3 with
  | [a, b, c], _ =>
    have h0 : entries [a, b, c] = entLoop 1 [a, b, c] := by unfold entries; rfl
    rw [h0] at h ⊢
    simp only [entLoop] at h ⊢
    split at h
    · exact absurd rfl h
    split at h
    · exact absurd rfl h
    split at h
    · exact absurd rfl h
    rename_i g1 g2 g3
    rw [if_neg g1, if_neg g2, if_neg g3]
    refine ⟨?_, ?_, ?_, ?_⟩
    · show 1 * a * b * c = a * (b * c)
      rw [Int.one_mul, Int.mul_assoc]
    all_goals simp only [List.getD_cons_zero, List.getD_cons_succ]; omega
/-- so many channels, each of so many entries, so far apart -/
theorem slots_geo {xs : List Int} {layout : Int} (h : entries xs ≠ 0) : ∃ c s p : Nat, entries xs = (c * s : Nat) ∧ sizeL xs layout = s ∧ pitchL xs layout = p ∧ 1 ≤ c ∧ 1 ≤ s ∧ s ≤ p ∧ p ≤ 128 ∧ c * s ≤ 64 ∧ c ≤ 64 ∧ s ≤ 64 ∧ (¬ (layout = 1 ∧ xs.length = 3) → c = 1 ∧ s = p) := by
  have hb := entries_bd xs
  by_cases h1 : layout = 1 ∧ xs.length = 3
  · obtain ⟨e, h2, h3, h4⟩ := entries_three h h1.2
    obtain ⟨a, ha⟩ := Int.eq_ofNat_of_zero_le (show 0 ≤ xs.getD 0 0 by omega)
    obtain ⟨b, hb'⟩ := Int.eq_ofNat_of_zero_le (show 0 ≤ xs.getD 1 0 by omega)
    obtain ⟨c, hc⟩ := Int.eq_ofNat_of_zero_le (show 0 ≤ xs.getD 2 0 by omega)
    rw [sizeL, pitchL, if_pos h1, if_pos h1]
    rw [ha, hb', hc] at e
    rw [ha] at h2
    rw [hb'] at h3 ⊢
    rw [hc] at h4 ⊢
    have e2 : (b : Int) * (c : Int) = ((b * c : Nat) : Int) := by simp
    have e3 : (a : Int) * ((b : Int) * (c : Int)) = ((a * (b * c) : Nat) : Int) := by simp
    rw [e3] at e
    rw [e2]
    have hbc : 1 ≤ b * c := Nat.mul_pos (by omega) (by omega)
    have hle : a * (b * c) ≤ 64 := by omega
    have hsl : b * c ≤ a * (b * c) := Nat.le_mul_of_pos_left _ (by omega)
    have hal : a ≤ a * (b * c) := Nat.le_mul_of_pos_right _ hbc
    obtain ⟨u1, u2, u3⟩ := up_ge 7 ((b * c : Nat) : Int) 1 (by decide) (by decide) (by omega)
    obtain ⟨p, hp⟩ := Int.eq_ofNat_of_zero_le (show 0 ≤ up 7 ((b * c : Nat) : Int) 1 by omega)
    exact ⟨a, b * c, p, e, rfl, hp, by omega, hbc, by omega, by omega, hle, by omega, by omega, fun g => absurd h1 g⟩
  · obtain ⟨n, hn⟩ := Int.eq_ofNat_of_zero_le hb.1
    rw [sizeL, pitchL, if_neg h1, if_neg h1, hn]
    rw [hn] at h hb
    exact ⟨1, n, n, by simp, rfl, rfl, by decide, by omega, by omega, by omega, by omega, by omega, by omega, fun _ => ⟨rfl, rfl⟩⟩
theorem placeL_at {c i s p : Nat} (h : i < s) : placeL s p (c * s + i) = (c * p + i : Nat) := by
  have hs : 0 < s := by omega
  have e1 : ((c * s + i : Nat) : Int) / (s : Int) = (c : Int) := by
    rw [← Int.natCast_ediv, Nat.add_comm, Nat.add_mul_div_right _ _ hs, Nat.div_eq_of_lt h, Nat.zero_add]
  have e2 : ((c * s + i : Nat) : Int) % (s : Int) = (i : Int) := by
    rw [← Int.natCast_emod, Nat.add_comm, Nat.add_mul_mod_self_right, Nat.mod_eq_of_lt h]
  rw [placeL, e1, e2]; simp
theorem placeL_nat {s p : Nat} (i : Nat) : placeL s p i = ((i / s * p + i % s : Nat) : Int) := by simp [placeL]
theorem placeL_lt {s p i : Nat} (hs : 1 ≤ s) (hp : s ≤ p) : placeL s p i < placeL s p (i + 1) := by
  rw [placeL_nat, placeL_nat, Int.ofNat_lt]
  have h1 := Nat.div_add_mod i s
  have h2 := Nat.mod_lt i (show s > 0 by omega)
  rcases Nat.lt_or_ge (i % s + 1) s with h | h
  · have e1 : (i + 1) / s = i / s := by
      have : i + 1 = i % s + 1 + (i / s) * s := by rw [Nat.mul_comm]; omega
      rw [this, Nat.add_mul_div_right _ _ (by omega), Nat.div_eq_of_lt h, Nat.zero_add]
    have e2 : (i + 1) % s = i % s + 1 := by
      have : i + 1 = i % s + 1 + (i / s) * s := by rw [Nat.mul_comm]; omega
      rw [this, Nat.add_mul_mod_self_right, Nat.mod_eq_of_lt h]
    rw [e1, e2]; omega
  · have e3 : i + 1 = (i / s + 1) * s := by rw [Nat.succ_mul, Nat.mul_comm]; omega
    have e1 : (i + 1) / s = i / s + 1 := by rw [e3, Nat.mul_div_cancel _ (by omega)]
    have e2 : (i + 1) % s = 0 := by rw [e3, Nat.mul_mod_left]
    rw [e1, e2, Nat.succ_mul]; omega
theorem placeL_mono {s p : Nat} (hs : 1 ≤ s) (hp : s ≤ p) : ∀ {i j : Nat}, i ≤ j → placeL s p i ≤ placeL s p j := by
  intro i j h
  induction h with
  | refl => exact Int.le_refl _
  | step _ ih => exact Int.le_trans ih (Int.le_of_lt (placeL_lt hs hp))
theorem placeL_bd {s p i n : Nat} (hs : 1 ≤ s) (hp : s ≤ p) (hi : i < n) (hn : n ≤ 64) (hp2 : p ≤ 128) : 0 ≤ placeL s p i ∧ placeL s p i ≤ 10000 := by
  rw [placeL_nat]
  have h1 : i / s ≤ i := Nat.div_le_self _ _
  have h2 := Nat.mod_lt i (show s > 0 by omega)
  have h3 : i / s * p ≤ 64 * 128 := Nat.mul_le_mul (by omega) hp2
  have h4 := Nat.mod_le i s
  omega
end Go.Proofs.Ytdmkdogakbipbaa
