import Derived.Test.YtajbngkcgbehlaaKScrollGraphs6
/- GO -/
namespace Go.Proofs.Ytajbngkcgbehlaa
open Go.SX Go.RowKit
def RShapePost (w : World) (n : NodeV) (l : List IntsV) (r : Option (List Int)) (e : Ending) (w' : World) : Prop :=
  ∃ v : Value, e = .returned v ∧ Ext w w' ∧ (r = none → v = .slice none 0 0) ∧
    ∀ xs, r = some xs → ∃ u : IntsV, v = u.val ∧ u.xs = xs ∧ (u = n.shape ∨ u ∈ l ∨ (u.sane ∧ (intsA u).holds (fun b => w.heap.size ≤ b ∧ b < w'.heap.size) w'))
section
variable {B : Base} {H : Heap} {S : Asn} {nx : Nat} {w : World} {n : NodeV} {l : List IntsV} {r : Option (List Int)}
theorem rends_old (u : IntsV) (hb : ∀ R w', S.holds R w' → (baseA B.w0).holds R w') (hw0 : B.w0 = w) (hu : u = n.shape ∨ u ∈ l) (hr : r = some u.xs) : finK B (.c u.val) H S nx (RShapePost w n l r) := by
  subst hw0 hr
  exact fin_of fun ρ w' hw => ⟨_, rfl, ext_of_abs hw hb, (fun h => by cases h), fun xs h => ⟨u, rfl, by simpa using h, hu.elim .inl fun h => .inr (.inl h)⟩⟩
theorem rends_no (hb : ∀ R w', S.holds R w' → (baseA B.w0).holds R w') (hw0 : B.w0 = w) (hr : r = none) : finK B (.c (.slice none 0 0)) H S nx (RShapePost w n l r) := by
  subst hw0 hr
  exact fin_of fun ρ w' hw => ⟨_, rfl, ext_of_abs hw hb, fun _ => rfl, fun xs h => by cases h⟩
theorem rends_new {i m : Nat} {xs : List Int} (hb : ∀ R w', S.holds R w' → (baseA B.w0).holds R w') (hw0 : B.w0 = w) (he : (i, Ent.rows (ints xs) 1 3) ∈ H) (hm : m = xs.length) (hf : ∀ x ∈ xs, -9223372036854775808 ≤ x ∧ x ≤ 9223372036854775807) (hl : xs.length ≤ 1000000) (hr : r = some xs) :
    finK B (.os i m) H S nx (RShapePost w n l r) := by
  subst hw0 hr hm
  refine fin_of fun ρ w' hw => ?_
  have hn := new_of_abs hw hb he
  rw [ints_length] at hn
  obtain ⟨u, h1, h2, h3, h4⟩ := newInts hn hf hl
  exact ⟨_, rfl, ext_of_abs hw hb, (fun h => by cases h), fun ys h => ⟨u, h1, by rw [h2]; simpa using h, .inr (.inr ⟨h3, h4⟩)⟩⟩
end
theorem refEntries_ints (w : World) (s : IntsV) (h : s.ok w) : Calls Try.prog 21 #[s.val] w fun e w' => e = .returned (.int .i64 (entries s.xs)) ∧ Ext w w' := refEntries_any w s.base s.cap s.xs h.rows
theorem mayL_own {n : NodeV} (h : n.kind = 1 ∨ n.kind = 2) : ∃ r, mayL n.kind = some (false :: r) ∧ (false :: r).length = 7 := by
  rcases h with h | h <;> rw [h] <;> unfold mayL <;> exact ⟨_, rfl, rfl⟩
theorem mayL_ahead {n : NodeV} {at_ : Nat} (hf : Formed n at_) (h : ¬ (n.kind = 1 ∨ n.kind = 2)) : ∃ r, mayL n.kind = some (true :: r) ∧ (true :: r).length = 7 := by
  have h2 := hf.kind
  have : n.kind = 3 ∨ n.kind = 4 ∨ n.kind = 5 ∨ n.kind = 6 ∨ n.kind = 7 ∨ n.kind = 8 ∨ n.kind = 9 := by omega
  rcases this with h | h | h | h | h | h | h <;> rw [h] <;> unfold mayL <;> exact ⟨_, rfl, rfl⟩
set_option maxRecDepth 20000 in
set_option maxHeartbeats 8000000 in
theorem refShape_own (w : World) (n : NodeV) (hn : n.ok w) (sv : ShapesV) (h12 : n.kind = 1 ∨ n.kind = 2) :
    Calls Try.prog 47 #[.agg n.cells.toArray, sv.val] w (RShapePost w n sv.l (shapeO n (sv.l.map (·.xs)))) := by
  have hsp : shapeO n (sv.l.map (·.xs)) = some n.shape.xs := by unfold shapeO; rw [if_pos h12]
  obtain ⟨r, hm, hr⟩ := mayL_own h12
  refine calls_of tab tabOk Try.func47 rfl rfl rfl [] (fun _ => ⟨none, 0⟩) [.agg [.c (.int .i64 n.kind), .c (.int .i64 n.a), .c (.int .i64 n.b), .c n.shape.val, .c (.int .i64 n.lo), .c (.int .i64 n.hi), .c (.int .i64 n.size), .c n.data.val, .c n.bias.val], .c sv.val] [] (baseA w) 0 rfl rfl (by show 2 ≤ _; decide) (abs_base w) ?_
  (repeat' ((conv => whnf) <;> first | (show callK _ 92 _ _ _ _ _; (refine call_bools (f := 92) (false :: r) 7 hr Try.call92 (fun ρ w' hw => may_any w' n.kind _ hm) (fun m am hml ham hmn => ?_))) | (show idxK _ _ _ _ _; (refine idx_of am 0 ham rfl (by omega) ?_)) | (show roK _ _ _; (refine ro_bool (j := 0) (fun R w' h => boolsA_in hml ham h.2) (by rw [hr]; decide) ?_)) | (show drawK _ 9 _ _ _ _ _ _; (refine draw_quiet tabOk mixed (by kernel_rfl) ?_)) | (show drawK _ 13 _ _ _ _ _ _; (refine draw_quiet tabOk mixed (by kernel_rfl) ?_)) | (show drawK _ 15 _ _ _ _ _ _; (refine draw_tree tabOk mixed [] _ (.take 0 (.take 1 (.take 2 (.take 3 (.take 4 (.take 5 (.take 6 (.take 7 (.take 8 (.take 9 (.take 10 (.take 11 (.take 12 (.take 13 (.take 14 (.take 15 (.take 16 (.take 17 (.take 18 (.take 19 (.take 20 (.take 21 (.one 22 (.take 23 (.done))))))))))))))))))))))))) (by kernel_rfl) (by kernel_rfl) (by kernel_rfl) (List.Sublist.refl _) ?_)) | (show drawK _ 20 _ _ _ _ _ _; (refine draw_quiet tabOk mixed (by kernel_rfl) ?_)) | (show drawK _ 22 _ _ _ _ _ _; (refine draw_tree tabOk mixed [] _ (.take 0 (.take 1 (.take 2 (.take 3 (.take 4 (.take 5 (.take 6 (.take 7 (.take 8 (.take 9 (.take 10 (.take 11 (.take 12 (.take 13 (.take 14 (.one 15 (.take 16 (.done)))))))))))))))))) (by kernel_rfl) (by kernel_rfl) (by kernel_rfl) (List.Sublist.refl _) ?_)) | (show Wp _ _ _ _ _ _ _; (refine Wp.go tabOk rfl ?_)) | (show @cmpK _ _ _; (first | refine cmp_yes (by omega) ?_ | refine cmp_no (by omega) ?_ | (refine cmp_both ?_ ?_ <;> intro _))) | (show wrapK _ _ _; (refine wrap_i64 (by omega) (by omega) ?_)) | (show leK _ _ _; (refine le_of (by first | exact Nat.le_refl _ | omega) ?_)) | (show roomK _ _ _; (refine room_of (by first | omega | (dsimp only; omega)) ?_)) | (show ltK _ _ _; (refine lt_of (by omega) ?_)) | (show _ ∧ _; (refine ⟨?_, ?_⟩)) | (show keepK _ _ _ _ _; (refine keep_of (by first | exact List.Sublist.refl _ | exact List.Sublist.cons _ (List.Sublist.refl _) | exact List.Sublist.cons _ (List.Sublist.cons _ (List.Sublist.refl _)) | exact List.Sublist.cons _ (List.Sublist.cons _ (List.Sublist.cons _ (List.Sublist.refl _)))) (by first | exact (fun _ _ h => h) | exact (fun _ _ h => h.1) | exact (fun _ _ h => h.1.1)) ?_)) | (show ownK _ _ _ _ _; (refine own_keep ?_))))
  all_goals (conv => whnf)
  all_goals exact rends_old (B := ⟨w, []⟩) (S := (baseA w).and ((boolsA m).past w.heap.size)) n.shape (fun _ _ h => h.1) rfl (.inl rfl) hsp
set_option maxRecDepth 20000 in
set_option maxHeartbeats 8000000 in
theorem refShape_ahead (w : World) (n : NodeV) (hn : n.ok w) (sv : ShapesV) (hs : sv.ok w) (hf : Formed n sv.l.length) (hg : ∀ s ∈ sv.l, 0 < entries s.xs) (h12 : ¬ (n.kind = 1 ∨ n.kind = 2)) :
    Calls Try.prog 47 #[.agg n.cells.toArray, sv.val] w (RShapePost w n sv.l (shapeO n (sv.l.map (·.xs)))) := by
  obtain ⟨r, hm, hr⟩ := mayL_ahead hf h12
  obtain ⟨ha0, ha1⟩ := hf.a (by omega) (by omega)
  obtain ⟨i, hia⟩ := Int.eq_ofNat_of_zero_le ha0
  have hil : i < sv.l.length := by omega
  obtain ⟨s, hi⟩ : ∃ s, sv.l[i]? = some s := ⟨_, List.getElem?_eq_getElem hil⟩
  have hA : (sv.l.map (·.xs)).getD n.a.toNat [] = s.xs := by rw [hia]; simp [List.getD, hi]
  have hg := hg s (List.mem_of_getElem? hi)
  have hso := hs.each s (List.mem_of_getElem? hi)
  have hri : (shRows sv.l)[i]? = some [s.val] := by rw [shRows_get hil, (List.getElem?_eq_some_iff.1 hi).2]
  obtain ⟨b, hb⟩ : ∃ a, sv.base = some a := base_some (j := i) hs.rows (by rw [shRows_length]; exact hil)
  obtain ⟨hl1, hl3, hd⟩ := entries_dims hg
  obtain ⟨a, hsb⟩ := hso.base (by omega)
  have hd0 : 0 < s.xs.length → 1 ≤ s.xs.getD 0 0 ∧ s.xs.getD 0 0 ≤ 64 := fun h => hd _ (getD_mem h)
  have hd1 : 1 < s.xs.length → 1 ≤ s.xs.getD 1 0 ∧ s.xs.getD 1 0 ≤ 64 := fun h => hd _ (getD_mem h)
  have hd2 : 2 < s.xs.length → 1 ≤ s.xs.getD 2 0 ∧ s.xs.getD 2 0 ≤ 64 := fun h => hd _ (getD_mem h)
  have hz := hf.pool
  have hq1 : n.kind = 5 → 1 < s.xs.length → 0 ≤ s.xs.getD 1 0 / n.size ∧ s.xs.getD 1 0 / n.size ≤ 64 := fun g h => by have := hz g; exact ⟨Int.ediv_nonneg (by omega) (by omega), Int.le_trans (Int.ediv_le_self _ (by omega)) (by omega)⟩
  have hq2 : n.kind = 5 → 2 < s.xs.length → 0 ≤ s.xs.getD 2 0 / n.size ∧ s.xs.getD 2 0 / n.size ≤ 64 := fun g h => by have := hz g; exact ⟨Int.ediv_nonneg (by omega) (by omega), Int.le_trans (Int.ediv_le_self _ (by omega)) (by omega)⟩
  have hbi := hf.bias
  have hmu : n.kind = 3 → 0 ≤ (n.bias.xs.length : Int) * entries s.xs ∧ (n.bias.xs.length : Int) * entries s.xs ≤ 4096 := fun g => by
    have h1 := entries_bd s.xs
    have h2 : (n.bias.xs.length : Int) * entries s.xs ≤ 64 * 64 := Int.mul_le_mul (by have := hbi g; omega) h1.2 h1.1 (by omega)
    have h3 : 0 ≤ (n.bias.xs.length : Int) * entries s.xs := Int.mul_nonneg (by omega) h1.1
    omega
  have hkd : n.kind = 4 → n.shape.xs.length = 4 ∧ (1 ≤ n.shape.xs.getD 0 0 ∧ n.shape.xs.getD 0 0 ≤ 64) ∧ (1 ≤ n.shape.xs.getD 1 0 ∧ n.shape.xs.getD 1 0 ≤ 64) ∧ (1 ≤ n.shape.xs.getD 2 0 ∧ n.shape.xs.getD 2 0 ≤ 64) ∧ (1 ≤ n.shape.xs.getD 3 0 ∧ n.shape.xs.getD 3 0 ≤ 64) := fun g => by
    obtain ⟨hk4, hkd⟩ := kernel_dims (hf.kern g)
    exact ⟨hk4, hkd _ (getD_mem (by omega)), hkd _ (getD_mem (by omega)), hkd _ (getD_mem (by omega)), hkd _ (getD_mem (by omega))⟩
  obtain ⟨c, hc⟩ := ints_base hn.shape
  have hE := entries_bd [n.shape.xs.getD 0 0, s.xs.getD 1 0 - n.shape.xs.getD 2 0 + 1, s.xs.getD 2 0 - n.shape.xs.getD 3 0 + 1]
  by_cases h6 : n.kind = 6
  · obtain ⟨hb0, hb1⟩ := hf.b h6
    obtain ⟨j, hjb⟩ := Int.eq_ofNat_of_zero_le hb0
    have hjl : j < sv.l.length := by omega
    obtain ⟨t, hj⟩ : ∃ t, sv.l[j]? = some t := ⟨_, List.getElem?_eq_getElem hjl⟩
    have hB : (sv.l.map (·.xs)).getD n.b.toNat [] = t.xs := by rw [hjb]; simp [List.getD, hj]
    have hto := hs.each t (List.mem_of_getElem? hj)
    have hrj : (shRows sv.l)[j]? = some [t.val] := by rw [shRows_get hjl, (List.getElem?_eq_some_iff.1 hj).2]
    have hsp : shapeO n (sv.l.map (·.xs)) = if s.xs = t.xs then some s.xs else none := by
      unfold shapeO; simp only [hA, hB]; repeat (first | rw [if_pos (by omega)] | rw [if_neg (by omega)])
    refine calls_of tab tabOk Try.func47 rfl rfl rfl [] (fun _ => ⟨none, 0⟩) [.agg [.c (.int .i64 n.kind), .c (.int .i64 n.a), .c (.int .i64 n.b), .c n.shape.val, .c (.int .i64 n.lo), .c (.int .i64 n.hi), .c (.int .i64 n.size), .c n.data.val, .c n.bias.val], .c sv.val] [] (baseA w) 0 rfl rfl (by show 2 ≤ _; decide) (abs_base w) ?_
    (repeat' ((conv => whnf) <;> first | (show callK _ 92 _ _ _ _ _; (refine call_bools (f := 92) (true :: r) 7 hr Try.call92 (fun ρ w' hw => may_any w' n.kind _ hm) (fun m am hml ham hmn => ?_))) | (show idxK _ _ _ _ _; (first | refine idx_of am 0 ham rfl (by omega) ?_ | refine idx_of b i hb hia hil ?_ | refine idx_of b j hb hjb hjl ?_)) | (show roK _ _ _; (first | refine ro_bool (j := 0) (fun R w' h => boolsA_in hml ham h.2) (by rw [hr]; decide) ?_ | refine ro_row0 (fun R w' h => by rw [← hb]; exact rows_base h.1 hs.rows) _ _ hri rfl ?_ | refine ro_row0 (fun R w' h => by rw [← hb]; exact rows_base h.1 hs.rows) _ _ hrj rfl ?_)) | (show callK _ 39 _ _ _ _ _; ((refine call_bool (f := 39) Try.call39 _ (fun ρ w' hw => same_any w' s t (holds_of_abs hw fun R h => hso.later h.1) (holds_of_abs hw fun R h => hto.later h.1)) ?_ ?_ <;> intro he))) | (show drawK _ 9 _ _ _ _ _ _; (refine draw_quiet tabOk mixed (by kernel_rfl) ?_)) | (show drawK _ 13 _ _ _ _ _ _; (refine draw_quiet tabOk mixed (by kernel_rfl) ?_)) | (show drawK _ 15 _ _ _ _ _ _; (refine draw_tree tabOk mixed [] _ (.take 0 (.take 1 (.take 2 (.take 3 (.take 4 (.take 5 (.take 6 (.take 7 (.take 8 (.take 9 (.take 10 (.take 11 (.take 12 (.take 13 (.take 14 (.take 15 (.take 16 (.take 17 (.take 18 (.take 19 (.take 20 (.take 21 (.one 22 (.take 23 (.done))))))))))))))))))))))))) (by kernel_rfl) (by kernel_rfl) (by kernel_rfl) (List.Sublist.refl _) ?_)) | (show drawK _ 20 _ _ _ _ _ _; (refine draw_quiet tabOk mixed (by kernel_rfl) ?_)) | (show drawK _ 22 _ _ _ _ _ _; (refine draw_tree tabOk mixed [] _ (.take 0 (.take 1 (.take 2 (.take 3 (.take 4 (.take 5 (.take 6 (.take 7 (.take 8 (.take 9 (.take 10 (.take 11 (.take 12 (.take 13 (.take 14 (.one 15 (.take 16 (.done)))))))))))))))))) (by kernel_rfl) (by kernel_rfl) (by kernel_rfl) (List.Sublist.refl _) ?_)) | (show Wp _ _ _ _ _ _ _; (refine Wp.go tabOk rfl ?_)) | (show @cmpK _ _ _; (first | refine cmp_yes (by omega) ?_ | refine cmp_no (by omega) ?_ | (refine cmp_both ?_ ?_ <;> intro _))) | (show wrapK _ _ _; (refine wrap_i64 (by omega) (by omega) ?_)) | (show leK _ _ _; (refine le_of (by first | exact Nat.le_refl _ | omega) ?_)) | (show roomK _ _ _; (refine room_of (by first | omega | (dsimp only; omega)) ?_)) | (show ltK _ _ _; (refine lt_of (by omega) ?_)) | (show _ ∧ _; (refine ⟨?_, ?_⟩)) | (show keepK _ _ _ _ _; (refine keep_of (by first | exact List.Sublist.refl _ | exact List.Sublist.cons _ (List.Sublist.refl _) | exact List.Sublist.cons _ (List.Sublist.cons _ (List.Sublist.refl _)) | exact List.Sublist.cons _ (List.Sublist.cons _ (List.Sublist.cons _ (List.Sublist.refl _)))) (by first | exact (fun _ _ h => h) | exact (fun _ _ h => h.1) | exact (fun _ _ h => h.1.1)) ?_)) | (show ownK _ _ _ _ _; (refine own_keep ?_))))
    all_goals (conv => whnf)
    · exact rends_old (B := ⟨w, []⟩) (S := (baseA w).and ((boolsA m).past w.heap.size)) s (fun _ _ h => h.1) rfl (.inr (List.mem_of_getElem? hi)) (hsp.trans (if_pos (of_decide_eq_true he)))
    · exact rends_no (B := ⟨w, []⟩) (S := (baseA w).and ((boolsA m).past w.heap.size)) (fun _ _ h => h.1) rfl (hsp.trans (if_neg (of_decide_eq_false he)))
  · refine calls_of tab tabOk Try.func47 rfl rfl rfl [] (fun _ => ⟨none, 0⟩) [.agg [.c (.int .i64 n.kind), .c (.int .i64 n.a), .c (.int .i64 n.b), .c n.shape.val, .c (.int .i64 n.lo), .c (.int .i64 n.hi), .c (.int .i64 n.size), .c n.data.val, .c n.bias.val], .c sv.val] [] (baseA w) 0 rfl rfl (by show 2 ≤ _; decide) (abs_base w) ?_
    (repeat' ((conv => whnf) <;> first | (show callK _ 92 _ _ _ _ _; (refine call_bools (f := 92) (true :: r) 7 hr Try.call92 (fun ρ w' hw => may_any w' n.kind _ hm) (fun m am hml ham hmn => ?_))) | (show idxK _ _ _ _ _; (first | refine idx_of am 0 ham rfl (by omega) ?_ | refine idx_of b i hb hia hil ?_)) | (show roK _ _ _; (first | refine ro_bool (j := 0) (fun R w' h => boolsA_in hml ham h.2) (by rw [hr]; decide) ?_ | refine ro_row0 (fun R w' h => by rw [← hb]; exact rows_base h.1 hs.rows) _ _ hri rfl ?_)) | (show idxK _ _ _ _ _; (refine idx_of _ 0 hsb rfl (by omega) ?_)) | (show roK _ _ _; (refine ro_int (fun R w' h => hso.at_ hsb R w' h.1) (j := 0) (by omega) ?_)) | (show idxK _ _ _ _ _; (refine idx_of _ 1 hsb rfl (by omega) ?_)) | (show roK _ _ _; (refine ro_int (fun R w' h => hso.at_ hsb R w' h.1) (j := 1) (by omega) ?_)) | (show idxK _ _ _ _ _; (refine idx_of _ 2 hsb rfl (by omega) ?_)) | (show roK _ _ _; (refine ro_int (fun R w' h => hso.at_ hsb R w' h.1) (j := 2) (by omega) ?_)) | (show idxK _ _ _ _ _; (refine idx_of _ 0 (hc (by omega)) rfl (by omega) ?_)) | (show roK _ _ _; (refine ro_int (fun R w' h => hn.shape.at_ (hc (by omega)) R w' h.1) (j := 0) (by omega) ?_)) | (show idxK _ _ _ _ _; (refine idx_of _ 1 (hc (by omega)) rfl (by omega) ?_)) | (show roK _ _ _; (refine ro_int (fun R w' h => hn.shape.at_ (hc (by omega)) R w' h.1) (j := 1) (by omega) ?_)) | (show idxK _ _ _ _ _; (refine idx_of _ 2 (hc (by omega)) rfl (by omega) ?_)) | (show roK _ _ _; (refine ro_int (fun R w' h => hn.shape.at_ (hc (by omega)) R w' h.1) (j := 2) (by omega) ?_)) | (show idxK _ _ _ _ _; (refine idx_of _ 3 (hc (by omega)) rfl (by omega) ?_)) | (show roK _ _ _; (refine ro_int (fun R w' h => hn.shape.at_ (hc (by omega)) R w' h.1) (j := 3) (by omega) ?_)) | (show callQ _ 21 _ _ _ _ _; (refine callQ_of (f := 21) Try.call21 _ (fun ρ w' hw => refEntries_ints w' s (holds_of_abs hw fun R h => hso.later h.1)) ?_)) | (show callK _ 21 [.c s.val] _ _ _ _; (refine call_pure (f := 21) Try.call21 _ (fun ρ w' hw => refEntries_ints w' s (holds_of_abs hw fun R h => hso.later h.1)) ?_)) | (show callK _ 21 [.c n.shape.val] _ _ _ _; (refine call_pure (f := 21) Try.call21 _ (fun ρ w' hw => refEntries_ints w' n.shape (holds_of_abs hw fun R h => hn.shape.later h.1)) ?_)) | (show callK _ 21 [.os 1 3] _ _ _ _; (refine call_pure (f := 21) Try.call21 _ (fun ρ w' hw => refEntries_any w' (ρ 1).base (ρ 1).cap [n.shape.xs.getD 0 0, s.xs.getD 1 0 - n.shape.xs.getD 2 0 + 1, s.xs.getD 2 0 - n.shape.xs.getD 3 0 + 1] (rows_of_abs hw List.mem_cons_self)) ?_)) | (show remK _ _ _; (refine rem_pos (by omega) (by omega) ?_)) | (show divK _ _ _ _; (refine div_pos rfl (by omega) (by omega) (by omega) ?_)) | (show drawK _ 9 _ _ _ _ _ _; (refine draw_quiet tabOk mixed (by kernel_rfl) ?_)) | (show drawK _ 13 _ _ _ _ _ _; (refine draw_quiet tabOk mixed (by kernel_rfl) ?_)) | (show drawK _ 15 _ _ _ _ _ _; (refine draw_tree tabOk mixed [] _ (.take 0 (.take 1 (.take 2 (.take 3 (.take 4 (.take 5 (.take 6 (.take 7 (.take 8 (.take 9 (.take 10 (.take 11 (.take 12 (.take 13 (.take 14 (.take 15 (.take 16 (.take 17 (.take 18 (.take 19 (.take 20 (.take 21 (.one 22 (.take 23 (.done))))))))))))))))))))))))) (by kernel_rfl) (by kernel_rfl) (by kernel_rfl) (List.Sublist.refl _) ?_)) | (show drawK _ 20 _ _ _ _ _ _; (refine draw_quiet tabOk mixed (by kernel_rfl) ?_)) | (show drawK _ 22 _ _ _ _ _ _; (refine draw_tree tabOk mixed [] _ (.take 0 (.take 1 (.take 2 (.take 3 (.take 4 (.take 5 (.take 6 (.take 7 (.take 8 (.take 9 (.take 10 (.take 11 (.take 12 (.take 13 (.take 14 (.one 15 (.take 16 (.done)))))))))))))))))) (by kernel_rfl) (by kernel_rfl) (by kernel_rfl) (List.Sublist.refl _) ?_)) | (show Wp _ _ _ _ _ _ _; (refine Wp.go tabOk rfl ?_)) | (show @cmpK _ _ _; (first | refine cmp_yes (by omega) ?_ | refine cmp_no (by omega) ?_ | (refine cmp_both ?_ ?_ <;> intro _))) | (show wrapK _ _ _; (refine wrap_i64 (by omega) (by omega) ?_)) | (show leK _ _ _; (refine le_of (by first | exact Nat.le_refl _ | omega) ?_)) | (show roomK _ _ _; (refine room_of (by first | omega | (dsimp only; omega)) ?_)) | (show ltK _ _ _; (refine lt_of (by omega) ?_)) | (show _ ∧ _; (refine ⟨?_, ?_⟩)) | (show keepK _ _ _ _ _; (refine keep_of (by first | exact List.Sublist.refl _ | exact List.Sublist.cons _ (List.Sublist.refl _) | exact List.Sublist.cons _ (List.Sublist.cons _ (List.Sublist.refl _)) | exact List.Sublist.cons _ (List.Sublist.cons _ (List.Sublist.cons _ (List.Sublist.refl _)))) (by first | exact (fun _ _ h => h) | exact (fun _ _ h => h.1) | exact (fun _ _ h => h.1.1)) ?_)) | (show ownK _ _ _ _ _; (refine own_keep ?_))))
    all_goals (conv => whnf)
    all_goals first
      | exact rends_no (B := ⟨w, []⟩) (S := (baseA w).and ((boolsA m).past w.heap.size)) (fun _ _ h => h.1) rfl (by unfold shapeO; simp only [hA]; (repeat (first | rw [if_pos (by omega)] | rw [if_neg (by omega)])))
      | exact rends_old (B := ⟨w, []⟩) (S := (baseA w).and ((boolsA m).past w.heap.size)) s (fun _ _ h => h.1) rfl (.inr (List.mem_of_getElem? hi)) (by unfold shapeO; simp only [hA]; (repeat (first | rw [if_pos (by omega)] | rw [if_neg (by omega)])))
      | exact rends_old (B := ⟨w, []⟩) (S := (baseA w).and ((boolsA m).past w.heap.size)) n.shape (fun _ _ h => h.1) rfl (.inl rfl) (by unfold shapeO; simp only [hA]; (repeat (first | rw [if_pos (by omega)] | rw [if_neg (by omega)])))
      | exact rends_new (B := ⟨w, []⟩) (S := (baseA w).and ((boolsA m).past w.heap.size)) (xs := [(n.bias.xs.length : Int)]) (fun _ _ h => h.1) rfl List.mem_cons_self rfl (by intro x hx; simp only [List.mem_singleton] at hx; subst hx; omega) (by simp) (by unfold shapeO; simp only [hA]; (repeat (first | rw [if_pos (by omega)] | rw [if_neg (by omega)])))
      | exact rends_new (B := ⟨w, []⟩) (S := (baseA w).and ((boolsA m).past w.heap.size)) (xs := [s.xs.getD 0 0, s.xs.getD 1 0 / n.size, s.xs.getD 2 0 / n.size]) (fun _ _ h => h.1) rfl List.mem_cons_self rfl (mem3 (by omega) (by omega) (by omega)) (by simp) (by unfold shapeO; simp only [hA]; (repeat (first | rw [if_pos (by omega)] | rw [if_neg (by omega)])))
      | exact rends_new (B := ⟨w, []⟩) (S := (baseA w).and ((boolsA m).past w.heap.size)) (xs := [n.shape.xs.getD 0 0, s.xs.getD 1 0 - n.shape.xs.getD 2 0 + 1, s.xs.getD 2 0 - n.shape.xs.getD 3 0 + 1]) (fun _ _ h => h.1) rfl List.mem_cons_self rfl (mem3 (by omega) (by omega) (by omega)) (by simp) (by unfold shapeO; simp only [hA]; (repeat (first | rw [if_pos (by omega)] | rw [if_neg (by omega)])))
theorem refShape_any (w : World) (n : NodeV) (hn : n.ok w) (sv : ShapesV) (hs : sv.ok w) (hf : Formed n sv.l.length) (hg : ∀ s ∈ sv.l, 0 < entries s.xs) :
    Calls Try.prog 47 #[.agg n.cells.toArray, sv.val] w (RShapePost w n sv.l (shapeO n (sv.l.map (·.xs)))) := by
  by_cases h12 : n.kind = 1 ∨ n.kind = 2
  · exact refShape_own w n hn sv h12
  · exact refShape_ahead w n hn sv hs hf hg h12
end Go.Proofs.Ytajbngkcgbehlaa
/- GP -/
namespace Go.Proofs.Ytajbngkcgbehlaa
open Go.SX Go.RowKit
theorem call_rshape {cx : Cx} {f : FuncId} {args : List SV} {H : Heap} {S : Asn} {nx : Nat} {K : SV → Heap → Asn → Nat → Prop} {n : NodeV} {l : List IntsV} (R0 : Option (List Int)) (hf : ∀ ar w, (callFunc f ar).run cx.P w = .ok (.enter f ar) w)
    (hn : ∀ R w', S.holds R w' → n.shape.ok w') (hl : ∀ u ∈ l, ∀ R w', S.holds R w' → u.ok w') (hpos : ∀ xs, R0 = some xs → 0 < xs.length)
    (hc : ∀ ρ w', Abs cx.B ρ nx H S w' → Calls cx.P f (SV.rfs ρ args).toArray w' (RShapePost w' n l R0))
    (h0 : R0 = none → K (.c (.slice none 0 0)) H S nx)
    (h1 : ∀ (a : Addr) (cap : Nat) (xs : List Int) (S' : Asn), R0 = some xs → (∀ R w', S'.holds R w' → S.holds R w' ∧ (⟨some a, cap, xs⟩ : IntsV).ok w') → (⟨some a, cap, xs⟩ : IntsV).sane → K (.c (.slice (some a) xs.length cap)) H S' nx) : callK cx f args H S nx K := by
  rw [callK_def]
  refine ⟨hf, fun ρ w hw => (hc ρ w hw).mono ?_⟩
  rintro e w' ⟨v, rfl, he, hnone, hv⟩
  have hw' := hw.ext he
  cases hr : R0 with
  | none =>
    rw [hnone hr]
    exact ⟨.c (.slice none 0 0), ρ, H, S, nx, rfl, fun _ _ => rfl, Nat.le_refl _, SV.lt_c _, hw', h0 hr⟩
  | some xs =>
    obtain ⟨u, rfl, hu, hcase⟩ := hv xs hr
    obtain ⟨ub, uc, us⟩ := u
    simp only at hu
    subst hu
    have old : ∀ (hok : ∀ R w', S.holds R w' → (⟨ub, uc, us⟩ : IntsV).ok w'), ∃ v' ρ' H' S' nx', Ending.returned (IntsV.val ⟨ub, uc, us⟩) = .returned (v'.rf ρ') ∧ (∀ i, i < nx → ρ' i = ρ i) ∧ nx ≤ nx' ∧ v'.lt nx' ∧ Abs cx.B ρ' nx' H' S' w' ∧ K v' H' S' nx' := fun hok => by
      have h := holds_of_abs hw' fun R h => hok R w' h
      obtain ⟨a, ha⟩ := h.base (hpos us hr)
      simp only at ha
      subst ha
      exact ⟨.c (.slice (some a) us.length uc), ρ, H, S, nx, rfl, fun _ _ => rfl, Nat.le_refl _, SV.lt_c _, hw', h1 a uc us S hr (fun R w'' g => ⟨g, hok R w'' g⟩) h.sane⟩
    rcases hcase with hcase | hcase | ⟨hsane, hnew⟩
    · exact old (fun R w' h => hcase ▸ hn R w' h)
    · exact old (hl _ hcase)
    · have hg := hw.grow (D := intsA ⟨ub, uc, us⟩) he hnew
      have h : (⟨ub, uc, us⟩ : IntsV).ok w' := intsA_ok hsane hnew
      obtain ⟨a, ha⟩ := h.base (hpos us hr)
      simp only at ha
      subst ha
      exact ⟨.c (.slice (some a) us.length uc), ρ, H, _, nx, rfl, fun _ _ => rfl, Nat.le_refl _, SV.lt_c _, hg, h1 a uc us _ hr (fun R w'' g => ⟨g.1, intsA_ok hsane ((intsA _).mono g.2 (fun b hb => hb.1))⟩) hsane⟩
theorem near_own {B : Base} {ρ : Nat → SX.Loc} {nx : Nat} {H : Heap} {S : Asn} {w : World} {i m : Nat} {T : TypeId} {R : List (List Value)} {xs : List Int} (hw : Abs B ρ nx H S w) (he : (i, Ent.rows R 1 T) ∈ H) (hR : R = ints xs) (hm : m = xs.length) (hf : ∀ x ∈ xs, i64 x) (hl : xs.length ≤ 1000000) :
    Calls Try.prog 48 (SV.rfs ρ [.os i m]).toArray w fun e w' => e = .returned (.bool (nearL xs)) ∧ Ext w w' := by
  obtain ⟨v, e1, rfl, hv⟩ := own_ints hw he hR hm hf hl
  rw [e1]; exact refNear_any w v hv
theorem rows_snoc2 (us : List IntsV) (l : SX.Loc) (xs : List Int) {i : Nat} {T : TypeId} {H : Heap} : (i, Ent.rows (shRows (us ++ [IntsV.mk l.base l.cap xs])) 1 T) ∈ (i, Ent.rows (List.take us.length (shRows us) ++ [[.slice l.base (0 + (ints xs).length) l.cap]]) 1 T) :: H := by
  have e : Value.slice l.base (0 + (ints xs).length) l.cap = IntsV.val ⟨l.base, l.cap, xs⟩ := by rw [ints_length, Nat.zero_add]; rfl
  rw [e]
  exact rows_snoc us _
/-- new rows of numbers, frozen -/
theorem frozen_newA {N : Nat} {l : SX.Loc} {xs : List Int} {R : List (List Value)} {S : Asn} (hR : R = ints xs) : ∀ Q w', (S.and ((rowsA l.base 1 R).past N)).holds Q w' → (newA N ⟨l.base, l.cap, xs⟩).holds Q w' := by
  subst hR
  exact fun Q w' h => h.2
set_option maxRecDepth 20000 in
set_option maxHeartbeats 8000000 in
theorem refCheck_any (w : World) (g : GraphV) (hg : g.ok w) : Calls Try.prog 18 #[g.val] w (CheckPost w (check g)) := by
  by_cases hc : g.l.length < 1 ∨ 24 < g.l.length ∨ g.out < 0 ∨ (g.l.length : Int) ≤ g.out
  · have hs : check g = (3, []) := by unfold check; rw [if_pos hc]
    rw [hs]
    refine calls_of tab tabOk Try.func18 rfl rfl rfl [] (fun _ => ⟨none, 0⟩) [.agg [.c (.slice g.base g.l.length g.cap), .c (.int .i64 g.out)]] [] (baseA w) 0 rfl rfl (by show 1 ≤ _; decide) (abs_base w) ?_
    (repeat' ((conv => whnf) <;> first | (show Wp _ _ _ _ _ _ _; (refine Wp.go tabOk rfl ?_)) | (show @cmpK _ _ _; (first | refine cmp_yes (by omega) ?_ | refine cmp_no (by omega) ?_ | (refine cmp_both ?_ ?_ <;> intro _))) | (show wrapK _ _ _; (refine wrap_i64 (by omega) (by omega) ?_)) | (show leK _ _ _; (refine le_of (by first | exact Nat.le_refl _ | omega) ?_)) | (show roomK _ _ _; (refine room_of (by first | omega | (dsimp only; omega)) ?_)) | (show ltK _ _ _; (refine lt_of (by omega) ?_)) | (show _ ∧ _; (refine ⟨?_, ?_⟩)) | (show keepK _ _ _ _ _; (refine keep_of (by first | exact List.Sublist.refl _ | exact List.Sublist.cons _ (List.Sublist.refl _) | exact List.Sublist.cons _ (List.Sublist.cons _ (List.Sublist.refl _)) | exact List.Sublist.cons _ (List.Sublist.cons _ (List.Sublist.cons _ (List.Sublist.refl _)))) (by first | exact (fun _ _ h => h) | exact (fun _ _ h => h.1) | exact (fun _ _ h => h.1.1)) ?_)) | (show ownK _ _ _ _ _; (refine own_keep ?_))))
    all_goals exact ends_bad (fun _ _ h => h) rfl rfl (by decide)
  · have hs : check g = checkR g.l [] := by unfold check; rw [if_neg hc]
    rw [hs]
    obtain ⟨a, ha⟩ : ∃ a, g.base = some a := base_some (j := 0) hg.rows (by rw [nodeRows_length]; omega)
    refine calls_of tab tabOk Try.func18 rfl rfl rfl [] (fun _ => ⟨none, 0⟩) [.agg [.c (.slice g.base g.l.length g.cap), .c (.int .i64 g.out)]] [] (baseA w) 0 rfl rfl (by show 1 ≤ _; decide) (abs_base w) ?_
    (repeat' ((conv => whnf) <;> first | (show Wp _ _ _ _ _ _ _; (refine Wp.go tabOk rfl ?_)) | (show @cmpK _ _ _; (first | refine cmp_yes (by omega) ?_ | refine cmp_no (by omega) ?_ | (refine cmp_both ?_ ?_ <;> intro _))) | (show wrapK _ _ _; (refine wrap_i64 (by omega) (by omega) ?_)) | (show leK _ _ _; (refine le_of (by first | exact Nat.le_refl _ | omega) ?_)) | (show roomK _ _ _; (refine room_of (by first | omega | (dsimp only; omega)) ?_)) | (show ltK _ _ _; (refine lt_of (by omega) ?_)) | (show _ ∧ _; (refine ⟨?_, ?_⟩)) | (show keepK _ _ _ _ _; (refine keep_of (by first | exact List.Sublist.refl _ | exact List.Sublist.cons _ (List.Sublist.refl _) | exact List.Sublist.cons _ (List.Sublist.cons _ (List.Sublist.refl _)) | exact List.Sublist.cons _ (List.Sublist.cons _ (List.Sublist.cons _ (List.Sublist.refl _)))) (by first | exact (fun _ _ h => h) | exact (fun _ _ h => h.1) | exact (fun _ _ h => h.1.1)) ?_)) | (show ownK _ _ _ _ _; (refine own_keep ?_))))
    refine Wp.loop (σ := Nat × List IntsV) 2 (fun ⟨k, us⟩ => [(32, .c (.slice g.base g.l.length g.cap)), (33, .c (.int .i64 g.l.length)), (34, .c (.int .i64 k)), (4, .os 1 k)]) (fun ⟨_, us⟩ => [(1, .rows (shRows us) 1 32)]) (fun ⟨_, us⟩ => (baseA w).and (eachA w.heap.size us))
      (fun ⟨k, us⟩ => k ≤ g.l.length ∧ us.length = k ∧ (∀ u ∈ us, u.sane ∧ 0 < entries u.xs) ∧ checkR g.l [] = checkR (g.l.drop k) (us.map (·.xs))) (fun s => g.l.length - s.1) (0, []) [(1, none)] (by decide) (fun s => ⟨rfl, rfl⟩) ⟨by simp, rfl, by simp, rfl⟩ ⟨rfl, ⟨rfl, rfl, rfl, rfl, trivial⟩, ⟨rfl, trivial⟩, fun R w' h => ⟨h, eachA_nil _ _ _⟩⟩ ?_
    rintro ⟨k, us⟩ ⟨hk, hul, hus, he⟩
    by_cases hlt : k < g.l.length
    · rw [drop_at hlt] at he
      have hn := hg.each _ (List.getElem_mem hlt)
      have hsm := hg.small _ (List.getElem_mem hlt)
      generalize hnk : g.l[k] = n at *
      have hrow : (nodeRows g.l)[k]? = some n.cells := by rw [nodeRows_get hlt, hnk]
      subst hul
      have hgs : ∀ s ∈ us.map (·.xs), 0 < entries s := fun s hs => by obtain ⟨u, hu, rfl⟩ := List.mem_map.1 hs; exact (hus u hu).2
      have hlm : (us.map (·.xs)).length = us.length := List.length_map _
      have fL : ∀ x ∈ [n.lo, n.hi], i64 x := by intro x hx; simp at hx; rcases hx with rfl | rfl; exact hn.loFits; exact hn.hiFits
      (repeat' ((conv => whnf) <;> first | (show idxK _ _ _ _ _; (refine idx_of a us.length ha rfl hlt ?_)) | (show roAggK _ _ _ _; (refine roAgg_row (fun R w' h => by rw [← ha]; exact rows_base h.1 hg.rows) _ hrow rfl ?_)) | (show callK _ 46 _ _ _ _ _; ((refine call_bool (f := 46) Try.call46 _ (fun ρ w' hw => refForm_any w' n (holds_of_abs hw fun R h => hn.later h.1) us.length) ?_ ?_ <;> intro hform))) | (show callK _ 47 _ _ _ _ _; (refine call_rshape (f := 47) (n := n) (l := us) (shapeO n (us.map fun x : IntsV => x.xs)) Try.call47 (fun R w' h => hn.shape.later h.1) (fun u hu R w' h => intsA_ok (hus u hu).1 ((intsA u).mono (h.2 u hu) (fun b hb => hb.1))) (fun xs hr => (entries_dims (shape_good (n := n) (sh := us.map fun x : IntsV => x.xs) (by rw [List.length_map]; exact formed_of hform) hgs hr rfl)).1) (fun ρ w' hw => refShape_any w' n (holds_of_abs hw fun R h => hn.later h.1) ⟨(ρ 1).base, (ρ 1).cap, us⟩ (shapes_abs hw (List.mem_cons_of_mem _ List.mem_cons_self) (fun R w' h => h.2) hus (by omega)) (formed_of hform) (fun s hs => (hus s hs).2)) (fun hr => ?_) (fun ua uc xs S' hr hS' hsane => ?_))) | (show callK _ 48 [.c n.data.val] _ _ _ _; ((refine call_bool (f := 48) Try.call48 _ (fun ρ w' hw => refNear_any w' n.data (holds_of_abs hw fun R h => hn.data.later (hS' _ _ h).1.1)) ?_ ?_ <;> intro hnd))) | (show callK _ 48 [.c n.bias.val] _ _ _ _; ((refine call_bool (f := 48) Try.call48 _ (fun ρ w' hw => refNear_any w' n.bias (holds_of_abs hw fun R h => hn.bias.later (hS' _ _ h).1.1)) ?_ ?_ <;> intro hnb))) | (show callK _ 48 _ _ _ _ _; ((refine call_bool (f := 48) Try.call48 _ (fun ρ w' hw => near_own hw List.mem_cons_self (xs := [n.lo, n.hi]) rfl rfl fL (by simp)) ?_ ?_ <;> intro hnl))) | (show pureK _ _ _; (first | refine slice_nil_yes (ti 32 rfl) rfl ?_ | refine slice_nil_no (ti 32 rfl) rfl rfl ?_)) | (show roRowsK _ _ _ _ _; (refine roRows_in (ints_length xs) (fun R w' h => (hS' R w' h).2.rows) ints_row ?_)) | (show ownK _ ((_, Ent.rows (_ ++ ints _) _ _) :: _) _ _ _; (refine own_freeze w.heap.size (fun R w' h b hb => ((hS' R w' h).1.1 b hb).1) (fun l hl => ?_))) | (show leK _ _ _; (refine le_of (by first | exact Nat.zero_le _ | (rw [shRows_length]; exact Nat.le_refl _)) ?_)) | (show roomK _ _ _; (refine room_of (by first | (show (us.length + 1) * 24 ≤ 140737488355328; omega) | (show (0 + (ints xs).length) * 8 ≤ 140737488355328; rw [ints_length]; have := hsane.few; simp only at this; omega)) ?_)) | (show Wp _ _ _ _ _ _ _; (refine Wp.go tabOk rfl ?_)) | (show @cmpK _ _ _; (first | refine cmp_yes (by omega) ?_ | refine cmp_no (by omega) ?_ | (refine cmp_both ?_ ?_ <;> intro _))) | (show wrapK _ _ _; (refine wrap_i64 (by omega) (by omega) ?_)) | (show leK _ _ _; (refine le_of (by first | exact Nat.le_refl _ | omega) ?_)) | (show roomK _ _ _; (refine room_of (by first | omega | (dsimp only; omega)) ?_)) | (show ltK _ _ _; (refine lt_of (by omega) ?_)) | (show _ ∧ _; (refine ⟨?_, ?_⟩)) | (show keepK _ _ _ _ _; (refine keep_of (by first | exact List.Sublist.refl _ | exact List.Sublist.cons _ (List.Sublist.refl _) | exact List.Sublist.cons _ (List.Sublist.cons _ (List.Sublist.refl _)) | exact List.Sublist.cons _ (List.Sublist.cons _ (List.Sublist.cons _ (List.Sublist.refl _)))) (by first | exact (fun _ _ h => h) | exact (fun _ _ h => h.1) | exact (fun _ _ h => h.1.1)) ?_)) | (show ownK _ _ _ _ _; (refine own_keep ?_))))
      all_goals (conv => whnf)
      · exact ends_bad (B := ⟨w, []⟩) (fun _ _ h => h.1) rfl (he.trans (checkR_shape (by rw [hlm]; exact hform) hr)) (by decide)
      · exact ends_bad (B := ⟨w, []⟩) (fun R w' h => (hS' R w' h).1.1) rfl (he.trans (checkR_near (by rw [hlm]; exact hform) hr (by unfold nearB; rw [hnd, hnb, hnl, decide_eq_false (by omega)]; rfl))) (by decide)
      · exact ⟨(us.length + 1, us ++ [IntsV.mk l.base l.cap xs]), [(1, some 7)], ⟨hlt, by simp, each_snoc hus ⟨hsane.fits, by simpa [ints_length] using hl, hsane.few⟩ (shape_good (by rw [hlm]; exact formed_of hform) hgs hr rfl), he.trans ((checkR_next (by rw [hlm]; exact hform) hr (by unfold nearB; rw [hnd, hnb, hnl, decide_eq_true (by omega)]; rfl)).trans (by rw [List.map_append]; rfl))⟩, by simp only; omega, rfl, ⟨rfl, rfl, rfl, rfl, trivial⟩, ⟨rows_snoc2 us l xs, trivial⟩, fun R w' h => ⟨(hS' R w' h.1).1.1, eachA_snoc (hS' R w' h.1).1.2 h.2⟩⟩
      · exact ends_bad (B := ⟨w, []⟩) (fun R w' h => (hS' R w' h).1.1) rfl (he.trans (checkR_near (by rw [hlm]; exact hform) hr (by unfold nearB; rw [hnl]; simp))) (by decide)
      · exact ends_bad (B := ⟨w, []⟩) (fun R w' h => (hS' R w' h).1.1) rfl (he.trans (checkR_near (by rw [hlm]; exact hform) hr (by unfold nearB; rw [hnb]; simp))) (by decide)
      · exact ends_bad (B := ⟨w, []⟩) (fun R w' h => (hS' R w' h).1.1) rfl (he.trans (checkR_near (by rw [hlm]; exact hform) hr (by unfold nearB; rw [hnd]; simp))) (by decide)
      · exact ends_bad (B := ⟨w, []⟩) (fun _ _ h => h.1) rfl (he.trans (checkR_form (by rw [hlm]; exact hform))) (by decide)
    · rw [List.drop_of_length_le (by omega)] at he
      subst hul
      (repeat' ((conv => whnf) <;> first | (show Wp _ _ _ _ _ _ _; (refine Wp.go tabOk rfl ?_)) | (show @cmpK _ _ _; (first | refine cmp_yes (by omega) ?_ | refine cmp_no (by omega) ?_ | (refine cmp_both ?_ ?_ <;> intro _))) | (show wrapK _ _ _; (refine wrap_i64 (by omega) (by omega) ?_)) | (show leK _ _ _; (refine le_of (by first | exact Nat.le_refl _ | omega) ?_)) | (show roomK _ _ _; (refine room_of (by first | omega | (dsimp only; omega)) ?_)) | (show ltK _ _ _; (refine lt_of (by omega) ?_)) | (show _ ∧ _; (refine ⟨?_, ?_⟩)) | (show keepK _ _ _ _ _; (refine keep_of (by first | exact List.Sublist.refl _ | exact List.Sublist.cons _ (List.Sublist.refl _) | exact List.Sublist.cons _ (List.Sublist.cons _ (List.Sublist.refl _)) | exact List.Sublist.cons _ (List.Sublist.cons _ (List.Sublist.cons _ (List.Sublist.refl _)))) (by first | exact (fun _ _ h => h) | exact (fun _ _ h => h.1) | exact (fun _ _ h => h.1.1)) ?_)) | (show ownK _ _ _ _ _; (refine own_keep ?_))))
      conv => whnf
      exact ends_good (B := ⟨w, []⟩) (fun _ _ h => h.1) (fun _ _ h => h.2) (fun u hu => (hus u hu).1) rfl List.mem_cons_self rfl he
end Go.Proofs.Ytajbngkcgbehlaa
/- GQ -/
namespace Go.Proofs.Ytajbngkcgbehlaa
open Go.SX Go.RowKit
/-! ### graphs as they come in -/
structure IntsV.raw (w : World) (v : IntsV) : Prop where
  rows : RowsI w v.base 1 (ints v.xs)
  fits : ∀ x ∈ v.xs, -9223372036854775808 ≤ x ∧ x ≤ 9223372036854775807
  room : v.xs.length ≤ v.cap
structure NodeV.raw (w : World) (n : NodeV) : Prop where
  shape : n.shape.raw w
  data : n.data.raw w
  bias : n.bias.raw w
  kindFits : i64 n.kind
  aFits : i64 n.a
  bFits : i64 n.b
  loFits : i64 n.lo
  hiFits : i64 n.hi
  sizeFits : i64 n.size
structure GraphV.raw (w : World) (g : GraphV) : Prop where
  rows : RowsI w g.base 9 (nodeRows g.l)
  each : ∀ n ∈ g.l, n.raw w
  outFits : i64 g.out
theorem IntsV.raw.later {w w' : World} {R : Nat → Prop} {v : IntsV} (h : v.raw w) (hb : (baseA w).holds R w') : v.raw w' := ⟨rows_base hb h.rows, h.fits, h.room⟩
theorem NodeV.raw.later {w w' : World} {R : Nat → Prop} {n : NodeV} (h : n.raw w) (hb : (baseA w).holds R w') : n.raw w' :=
  ⟨h.shape.later hb, h.data.later hb, h.bias.later hb, h.kindFits, h.aFits, h.bFits, h.loFits, h.hiFits, h.sizeFits⟩
theorem GraphV.raw.later {w w' : World} {R : Nat → Prop} {g : GraphV} (h : g.raw w) (hb : (baseA w).holds R w') : g.raw w' := ⟨rows_base hb h.rows, fun n hn => (h.each n hn).later hb, h.outFits⟩
def fewN (n : NodeV) : Bool := decide (n.data.xs.length ≤ 5000 ∧ n.bias.xs.length ≤ 200 ∧ n.shape.xs.length ≤ 20)
def fewB (g : GraphV) : Bool := decide (g.l.length ≤ 40) && g.l.all fewN
theorem IntsV.raw.ok {w : World} {v : IntsV} (h : v.raw w) (hf : v.xs.length ≤ 1000000) : v.ok w := ⟨h.rows, h.fits, h.room, hf⟩
theorem raw_ok {w : World} {g : GraphV} (h : g.raw w) (hf : fewB g = true) : g.ok w := by
  unfold fewB at hf
  simp only [Bool.and_eq_true, decide_eq_true_eq, List.all_eq_true] at hf
  have hn : ∀ n ∈ g.l, n.data.xs.length ≤ 5000 ∧ n.bias.xs.length ≤ 200 ∧ n.shape.xs.length ≤ 20 := fun n hn => by simpa [fewN] using hf.2 n hn
  exact ⟨h.rows, fun n hm => by
    have h1 := h.each n hm
    have h2 := hn n hm
    exact ⟨h1.shape.ok (by omega), h1.data.ok (by omega), h1.bias.ok (by omega), h1.kindFits, h1.aFits, h1.bFits, h1.loFits, h1.hiFits, h1.sizeFits⟩, fun n hm => by have := hn n hm; exact ⟨by omega, by omega⟩, by omega, h.outFits⟩
set_option maxHeartbeats 1000000 in
theorem few_any (w : World) (g : GraphV) (hg : g.raw w) : Calls Try.prog 16 #[g.val] w fun e w' => e = .returned (.bool (fewB g)) ∧ Ext w w' := by
  by_cases hc : g.l.length ≤ 40
  · have hs : fewB g = g.l.all fewN := by unfold fewB; rw [decide_eq_true hc, Bool.true_and]
    rw [hs]
    refine calls_of tab tabOk Try.func16 rfl rfl rfl [] (fun _ => ⟨none, 0⟩) [.agg [.c (.slice g.base g.l.length g.cap), .c (.int .i64 g.out)]] [] (baseA w) 0 rfl rfl (by show 1 ≤ _; decide) (abs_base w) ?_
    (repeat' ((conv => whnf) <;> first | (show Wp _ _ _ _ _ _ _; (refine Wp.go tabOk rfl ?_)) | (show @cmpK _ _ _; (first | refine cmp_yes (by omega) ?_ | refine cmp_no (by omega) ?_ | (refine cmp_both ?_ ?_ <;> intro _))) | (show wrapK _ _ _; (refine wrap_i64 (by omega) (by omega) ?_)) | (show leK _ _ _; (refine le_of (by first | exact Nat.le_refl _ | omega) ?_)) | (show roomK _ _ _; (refine room_of (by first | omega | (dsimp only; omega)) ?_)) | (show ltK _ _ _; (refine lt_of (by omega) ?_)) | (show _ ∧ _; (refine ⟨?_, ?_⟩)) | (show keepK _ _ _ _ _; (refine keep_of (by first | exact List.Sublist.refl _ | exact List.Sublist.cons _ (List.Sublist.refl _) | exact List.Sublist.cons _ (List.Sublist.cons _ (List.Sublist.refl _)) | exact List.Sublist.cons _ (List.Sublist.cons _ (List.Sublist.cons _ (List.Sublist.refl _)))) (by first | exact (fun _ _ h => h) | exact (fun _ _ h => h.1) | exact (fun _ _ h => h.1.1)) ?_)) | (show ownK _ _ _ _ _; (refine own_keep ?_))))
    refine Wp.loop (σ := Nat) 1 (fun k => [(10, .c (.slice g.base g.l.length g.cap)), (11, .c (.int .i64 g.l.length)), (12, .c (.int .i64 k))]) (fun _ => []) (fun _ => baseA w)
      (fun k => k ≤ g.l.length ∧ g.l.all fewN = (g.l.drop k).all fewN) (fun k => g.l.length - k) 0 [] (by decide) (fun s => ⟨rfl, rfl⟩) ⟨by simp, rfl⟩ ⟨rfl, ⟨rfl, rfl, rfl, trivial⟩, trivial, fun R w' h => h⟩ ?_
    rintro k ⟨hk, he⟩
    by_cases hlt : k < g.l.length
    · obtain ⟨a, ha⟩ : ∃ a, g.base = some a := base_some (j := k) hg.rows (by rw [nodeRows_length]; omega)
      rw [drop_at hlt, List.all_cons] at he
      generalize hnk : g.l[k] = n at *
      have hrow : (nodeRows g.l)[k]? = some n.cells := by rw [nodeRows_get hlt, hnk]
      (repeat' ((conv => whnf) <;> first | (show idxK _ _ _ _ _; (refine idx_of a k ha rfl hlt ?_)) | (show roAggK _ _ _ _; (refine roAgg_row (fun R w' h => by rw [← ha]; exact rows_base h hg.rows) _ hrow rfl ?_)) | (show Wp _ _ _ _ _ _ _; (refine Wp.go tabOk rfl ?_)) | (show @cmpK _ _ _; (first | refine cmp_yes (by omega) ?_ | refine cmp_no (by omega) ?_ | (refine cmp_both ?_ ?_ <;> intro _))) | (show wrapK _ _ _; (refine wrap_i64 (by omega) (by omega) ?_)) | (show leK _ _ _; (refine le_of (by first | exact Nat.le_refl _ | omega) ?_)) | (show roomK _ _ _; (refine room_of (by first | omega | (dsimp only; omega)) ?_)) | (show ltK _ _ _; (refine lt_of (by omega) ?_)) | (show _ ∧ _; (refine ⟨?_, ?_⟩)) | (show keepK _ _ _ _ _; (refine keep_of (by first | exact List.Sublist.refl _ | exact List.Sublist.cons _ (List.Sublist.refl _) | exact List.Sublist.cons _ (List.Sublist.cons _ (List.Sublist.refl _)) | exact List.Sublist.cons _ (List.Sublist.cons _ (List.Sublist.cons _ (List.Sublist.refl _)))) (by first | exact (fun _ _ h => h) | exact (fun _ _ h => h.1) | exact (fun _ _ h => h.1.1)) ?_)) | (show ownK _ _ _ _ _; (refine own_keep ?_))))
      all_goals first
        | exact ends_bool (fun _ _ h => h) rfl (by rw [he, show fewN n = false from decide_eq_false (by omega), Bool.false_and])
        | exact ⟨k + 1, [], ⟨hlt, by rw [he, show fewN n = true from decide_eq_true (by omega), Bool.true_and]⟩, by omega, rfl, ⟨rfl, rfl, rfl, trivial⟩, trivial, fun R w' h => h⟩
    · rw [List.drop_of_length_le (by omega)] at he
      (repeat' ((conv => whnf) <;> first | (show Wp _ _ _ _ _ _ _; (refine Wp.go tabOk rfl ?_)) | (show @cmpK _ _ _; (first | refine cmp_yes (by omega) ?_ | refine cmp_no (by omega) ?_ | (refine cmp_both ?_ ?_ <;> intro _))) | (show wrapK _ _ _; (refine wrap_i64 (by omega) (by omega) ?_)) | (show leK _ _ _; (refine le_of (by first | exact Nat.le_refl _ | omega) ?_)) | (show roomK _ _ _; (refine room_of (by first | omega | (dsimp only; omega)) ?_)) | (show ltK _ _ _; (refine lt_of (by omega) ?_)) | (show _ ∧ _; (refine ⟨?_, ?_⟩)) | (show keepK _ _ _ _ _; (refine keep_of (by first | exact List.Sublist.refl _ | exact List.Sublist.cons _ (List.Sublist.refl _) | exact List.Sublist.cons _ (List.Sublist.cons _ (List.Sublist.refl _)) | exact List.Sublist.cons _ (List.Sublist.cons _ (List.Sublist.cons _ (List.Sublist.refl _)))) (by first | exact (fun _ _ h => h) | exact (fun _ _ h => h.1) | exact (fun _ _ h => h.1.1)) ?_)) | (show ownK _ _ _ _ _; (refine own_keep ?_))))
      exact ends_bool (fun _ _ h => h) rfl (by rw [he]; rfl)
  · have hs : fewB g = false := by unfold fewB; rw [decide_eq_false hc, Bool.false_and]
    rw [hs]
    refine calls_of tab tabOk Try.func16 rfl rfl rfl [] (fun _ => ⟨none, 0⟩) [.agg [.c (.slice g.base g.l.length g.cap), .c (.int .i64 g.out)]] [] (baseA w) 0 rfl rfl (by show 1 ≤ _; decide) (abs_base w) ?_
    (repeat' ((conv => whnf) <;> first | (show Wp _ _ _ _ _ _ _; (refine Wp.go tabOk rfl ?_)) | (show @cmpK _ _ _; (first | refine cmp_yes (by omega) ?_ | refine cmp_no (by omega) ?_ | (refine cmp_both ?_ ?_ <;> intro _))) | (show wrapK _ _ _; (refine wrap_i64 (by omega) (by omega) ?_)) | (show leK _ _ _; (refine le_of (by first | exact Nat.le_refl _ | omega) ?_)) | (show roomK _ _ _; (refine room_of (by first | omega | (dsimp only; omega)) ?_)) | (show ltK _ _ _; (refine lt_of (by omega) ?_)) | (show _ ∧ _; (refine ⟨?_, ?_⟩)) | (show keepK _ _ _ _ _; (refine keep_of (by first | exact List.Sublist.refl _ | exact List.Sublist.cons _ (List.Sublist.refl _) | exact List.Sublist.cons _ (List.Sublist.cons _ (List.Sublist.refl _)) | exact List.Sublist.cons _ (List.Sublist.cons _ (List.Sublist.cons _ (List.Sublist.refl _)))) (by first | exact (fun _ _ h => h) | exact (fun _ _ h => h.1) | exact (fun _ _ h => h.1.1)) ?_)) | (show ownK _ _ _ _ _; (refine own_keep ?_))))
    exact ends_bool (fun _ _ h => h) rfl rfl

theorem sameShapes_any (w : World) (x y : ShapesV) (hx : x.ok w) (hy : y.ok w) (he : x.l.map (·.xs) = y.l.map (·.xs)) : Calls Try.prog 19 #[x.val, y.val] w fun e w' => e = .returned (.bool true) ∧ Ext w w' := by
  have hl : x.l.length = y.l.length := by simpa using congrArg List.length he
  have hfew := hx.few
  refine calls_of tab tabOk Try.func19 rfl rfl rfl [] (fun _ => ⟨none, 0⟩) [.c x.val, .c y.val] [] (baseA w) 0 rfl rfl (by show 2 ≤ _; decide) (abs_base w) ?_
  (repeat' ((conv => whnf) <;> first | (show drawK _ 6 _ _ _ _ _ _; (refine draw_quiet tabOk mixed (by kernel_rfl) ?_)) | (show Wp _ _ _ _ _ _ _; (refine Wp.go tabOk rfl ?_)) | (show @cmpK _ _ _; (first | refine cmp_yes (by omega) ?_ | refine cmp_no (by omega) ?_ | (refine cmp_both ?_ ?_ <;> intro _))) | (show wrapK _ _ _; (refine wrap_i64 (by omega) (by omega) ?_)) | (show leK _ _ _; (refine le_of (by first | exact Nat.le_refl _ | omega) ?_)) | (show roomK _ _ _; (refine room_of (by first | omega | (dsimp only; omega)) ?_)) | (show ltK _ _ _; (refine lt_of (by omega) ?_)) | (show _ ∧ _; (refine ⟨?_, ?_⟩)) | (show keepK _ _ _ _ _; (refine keep_of (by first | exact List.Sublist.refl _ | exact List.Sublist.cons _ (List.Sublist.refl _) | exact List.Sublist.cons _ (List.Sublist.cons _ (List.Sublist.refl _)) | exact List.Sublist.cons _ (List.Sublist.cons _ (List.Sublist.cons _ (List.Sublist.refl _)))) (by first | exact (fun _ _ h => h) | exact (fun _ _ h => h.1) | exact (fun _ _ h => h.1.1)) ?_)) | (show ownK _ _ _ _ _; (refine own_keep ?_))))
  refine Wp.loop (σ := Nat) 0 (fun k => [(0, .c x.val), (1, .c y.val), (12, .c (.int .i64 x.l.length)), (13, .c (.int .i64 k))]) (fun _ => []) (fun _ => baseA w)
    (fun k => k ≤ x.l.length) (fun k => x.l.length - k) 0 [] (by decide) (fun s => ⟨rfl, rfl⟩) (by simp) ⟨rfl, ⟨rfl, rfl, rfl, rfl, trivial⟩, trivial, fun R w' h => h⟩ ?_
  rintro k hk
  by_cases hlt : k < x.l.length
  · obtain ⟨a, ha⟩ : ∃ a, x.base = some a := base_some (j := k) hx.rows (by rw [shRows_length]; omega)
    obtain ⟨b, hb⟩ : ∃ a, y.base = some a := base_some (j := k) hy.rows (by rw [shRows_length]; omega)
    have hly : k < y.l.length := by omega
    have hxy : x.l[k].xs = y.l[k].xs := by
      have := congrArg (fun l => l[k]?) he
      simpa [hlt, hly] using this
    have hxk := hx.each _ (List.getElem_mem hlt)
    have hyk := hy.each _ (List.getElem_mem hly)
    (repeat' ((conv => whnf) <;> first | (show idxK _ _ _ _ _; (first | refine idx_of a k ha rfl hlt ?_ | refine idx_of b k hb rfl hly ?_)) | (show roK _ _ _; (first | refine ro_row0 (fun R w' h => by rw [← ha]; exact rows_base h hx.rows) _ _ (shRows_get hlt) rfl ?_ | refine ro_row0 (fun R w' h => by rw [← hb]; exact rows_base h hy.rows) _ _ (shRows_get hly) rfl ?_)) | (show callQ _ 39 _ _ _ _ _; (refine callQ_of (f := 39) Try.call39 (.bool true) (fun ρ w' hw => by have := same_any w' x.l[k] y.l[k] (holds_of_abs hw fun R h => hxk.later h) (holds_of_abs hw fun R h => hyk.later h); rw [decide_eq_true hxy] at this; exact this) ?_)) | (show drawK _ 6 _ _ _ _ _ _; (refine draw_quiet tabOk mixed (by kernel_rfl) ?_)) | (show Wp _ _ _ _ _ _ _; (refine Wp.go tabOk rfl ?_)) | (show @cmpK _ _ _; (first | refine cmp_yes (by omega) ?_ | refine cmp_no (by omega) ?_ | (refine cmp_both ?_ ?_ <;> intro _))) | (show wrapK _ _ _; (refine wrap_i64 (by omega) (by omega) ?_)) | (show leK _ _ _; (refine le_of (by first | exact Nat.le_refl _ | omega) ?_)) | (show roomK _ _ _; (refine room_of (by first | omega | (dsimp only; omega)) ?_)) | (show ltK _ _ _; (refine lt_of (by omega) ?_)) | (show _ ∧ _; (refine ⟨?_, ?_⟩)) | (show keepK _ _ _ _ _; (refine keep_of (by first | exact List.Sublist.refl _ | exact List.Sublist.cons _ (List.Sublist.refl _) | exact List.Sublist.cons _ (List.Sublist.cons _ (List.Sublist.refl _)) | exact List.Sublist.cons _ (List.Sublist.cons _ (List.Sublist.cons _ (List.Sublist.refl _)))) (by first | exact (fun _ _ h => h) | exact (fun _ _ h => h.1) | exact (fun _ _ h => h.1.1)) ?_)) | (show ownK _ _ _ _ _; (refine own_keep ?_))))
    exact ⟨k + 1, [], hlt, by omega, rfl, ⟨rfl, rfl, rfl, rfl, trivial⟩, trivial, fun R w' h => h⟩
  · (repeat' ((conv => whnf) <;> first | (show drawK _ 6 _ _ _ _ _ _; (refine draw_quiet tabOk mixed (by kernel_rfl) ?_)) | (show Wp _ _ _ _ _ _ _; (refine Wp.go tabOk rfl ?_)) | (show @cmpK _ _ _; (first | refine cmp_yes (by omega) ?_ | refine cmp_no (by omega) ?_ | (refine cmp_both ?_ ?_ <;> intro _))) | (show wrapK _ _ _; (refine wrap_i64 (by omega) (by omega) ?_)) | (show leK _ _ _; (refine le_of (by first | exact Nat.le_refl _ | omega) ?_)) | (show roomK _ _ _; (refine room_of (by first | omega | (dsimp only; omega)) ?_)) | (show ltK _ _ _; (refine lt_of (by omega) ?_)) | (show _ ∧ _; (refine ⟨?_, ?_⟩)) | (show keepK _ _ _ _ _; (refine keep_of (by first | exact List.Sublist.refl _ | exact List.Sublist.cons _ (List.Sublist.refl _) | exact List.Sublist.cons _ (List.Sublist.cons _ (List.Sublist.refl _)) | exact List.Sublist.cons _ (List.Sublist.cons _ (List.Sublist.cons _ (List.Sublist.refl _)))) (by first | exact (fun _ _ h => h) | exact (fun _ _ h => h.1) | exact (fun _ _ h => h.1.1)) ?_)) | (show ownK _ _ _ _ _; (refine own_keep ?_))))
    exact ends_bool (fun _ _ h => h) rfl rfl

theorem checkR_len : ∀ (l : List NodeV) (sh : List (List Int)), (checkR l sh).1 = 0 → (checkR l sh).2.length = sh.length + l.length
  | [], sh, _ => by simp [checkR]
  | n :: r, sh, h => by
    by_cases hf : formB n sh.length = false
    · rw [checkR_form hf] at h; simp at h
    have hf : formB n sh.length = true := by simpa using hf
    cases hs : shapeO n sh with
    | none => rw [checkR_shape hf hs] at h; simp at h
    | some s =>
      by_cases hn : nearB n = false
      · rw [checkR_near hf hs hn] at h; simp at h
      have hn : nearB n = true := by simpa using hn
      rw [checkR_next hf hs hn] at h ⊢
      rw [checkR_len r _ h]
      simp; omega
theorem check_len {g : GraphV} (h : (check g).1 = 0) : (check g).2.length ≤ 24 := by
  unfold check at h ⊢
  by_cases hc : g.l.length < 1 ∨ 24 < g.l.length ∨ g.out < 0 ∨ (g.l.length : Int) ≤ g.out
  · rw [if_pos hc] at h; simp at h
  · rw [if_neg hc] at h ⊢
    rw [checkR_len _ _ h]; simp; omega
theorem shapesD_ok {sv : ShapesV} {g : GraphV} {R : Nat → Prop} {w : World} {N : Nat} (he : (check g).1 = 0) (hm : sv.l.map (·.xs) = (check g).2) (hs : ∀ u ∈ sv.l, u.sane) (h : ((shapesD sv).past N).holds R w) : sv.ok w :=
  ⟨rowsA_in h.1, fun u hu => intsA_ok (hs u hu) (h.2 u hu), by have := check_len he; rw [← hm] at this; simpa using this⟩
theorem call_check2 {cx : Cx} {f : FuncId} {args : List SV} {H : Heap} {S : Asn} {nx : Nat} {K : SV → Heap → Asn → Nat → Prop} (r : Int × List (List Int)) (hf : ∀ ar w, (callFunc f ar).run cx.P w = .ok (.enter f ar) w)
    (hc : ∀ ρ w', Abs cx.B ρ nx H S w' → Calls cx.P f (SV.rfs ρ args).toArray w' (CheckPost w' r))
    (h0 : r.1 ≠ 0 → K (.c (.tuple #[.slice none 0 0, .int .i64 r.1])) H S nx)
    (h1 : r.1 = 0 → ∀ sv : ShapesV, sv.l.map (·.xs) = r.2 → (∀ u ∈ sv.l, u.sane) → sv.l.length ≤ sv.cap → K (.c (.tuple #[sv.val, .int .i64 0])) H (S.and ((shapesD sv).past cx.B.w0.heap.size)) nx) : callK cx f args H S nx K := by
  rw [callK_def]
  refine ⟨hf, fun ρ w hw => (hc ρ w hw).mono ?_⟩
  rintro e w' ⟨v, rfl, he, hbad, hgood⟩
  by_cases hr : r.1 = 0
  · obtain ⟨sv, rfl, hm, hs, hd, hcap⟩ := hgood hr
    rw [hr]
    exact ⟨.c (.tuple #[sv.val, .int .i64 0]), ρ, H, _, nx, rfl, fun _ _ => rfl, Nat.le_refl _, SV.lt_c _, hw.grow he hd, h1 hr sv hm hs hcap⟩
  · rw [hbad hr]
    exact ⟨.c (.tuple #[.slice none 0 0, .int .i64 r.1]), ρ, H, S, nx, rfl, fun _ _ => rfl, Nat.le_refl _, SV.lt_c _, hw.ext he, h0 hr⟩
theorem call_check {cx : Cx} {f : FuncId} {args : List SV} {H : Heap} {S : Asn} {nx : Nat} {K : SV → Heap → Asn → Nat → Prop} (r : Int × List (List Int)) (hf : ∀ ar w, (callFunc f ar).run cx.P w = .ok (.enter f ar) w)
    (hc : ∀ ρ w', Abs cx.B ρ nx H S w' → Calls cx.P f (SV.rfs ρ args).toArray w' (CheckPost w' r))
    (h0 : r.1 ≠ 0 → K (.c (.tuple #[.slice none 0 0, .int .i64 r.1])) H S nx)
    (h1 : r.1 = 0 → ∀ sv : ShapesV, sv.l.map (·.xs) = r.2 → (∀ u ∈ sv.l, u.sane) → K (.c (.tuple #[sv.val, .int .i64 0])) H (S.and ((shapesD sv).past cx.B.w0.heap.size)) nx) : callK cx f args H S nx K :=
  call_check2 r hf hc h0 (fun e sv hm hs _ => h1 e sv hm hs)
end Go.Proofs.Ytajbngkcgbehlaa
/- SL -/
namespace Go.Proofs.Ytajbngkcgbehlaa
open Go.SX Go.RowKit
/-! nodes and graphs, plain; the same ones are told to be the same -/
structure NodeP where
  kind : Int
  a : Int
  b : Int
  shape : List Int
  lo : Int
  hi : Int
  size : Int
  data : List Int
  bias : List Int
def NodeV.pl (n : NodeV) : NodeP := ⟨n.kind, n.a, n.b, n.shape.xs, n.lo, n.hi, n.size, n.data.xs, n.bias.xs⟩
def NodeP.toV (n : NodeP) : NodeV := ⟨n.kind, n.a, n.b, ⟨none, 0, n.shape⟩, n.lo, n.hi, n.size, ⟨none, 0, n.data⟩, ⟨none, 0, n.bias⟩⟩
theorem checkR_pl : ∀ {l m : List NodeV} (sh : List (List Int)), l.map NodeV.pl = m.map NodeV.pl → checkR l sh = checkR m sh
  | [], [], _, _ => rfl
  | [], _ :: _, _, h => by simp at h
  | _ :: _, [], _, h => by simp at h
  | x :: l, y :: m, sh, h => by
    simp only [List.map_cons, List.cons.injEq] at h
    have h1 : formB x sh.length = formB y sh.length := by
      have : ∀ z : NodeV, formB z sh.length = formB z.pl.toV sh.length := fun z => by unfold formB lacksB; rfl
      rw [this x, this y, h.1]
    have h2 : shapeO x sh = shapeO y sh := by
      have : ∀ z : NodeV, shapeO z sh = shapeO z.pl.toV sh := fun z => rfl
      rw [this x, this y, h.1]
    have h3 : nearB x = nearB y := by
      have : ∀ z : NodeV, nearB z = nearB z.pl.toV := fun z => by unfold nearB; rfl
      rw [this x, this y, h.1]
    simp only [checkR]
    rw [h1, h2, h3]
    split
    · rfl
    · cases shapeO y sh with
      | none => rfl
      | some s =>
        simp only
        split
        · rfl
        · exact checkR_pl _ h.2
theorem check_pl {g h : GraphV} (hl : g.l.map NodeV.pl = h.l.map NodeV.pl) (ho : g.out = h.out) : check g = check h := by
  unfold check
  have e : g.l.length = h.l.length := by simpa using congrArg List.length hl
  rw [e, ho, checkR_pl [] hl]
theorem same_yes {w : World} {x y : IntsV} (hx : x.ok w) (hy : y.ok w) (he : x.xs = y.xs) : Calls Try.prog 39 #[x.val, y.val] w fun e w' => e = .returned (.bool true) ∧ Ext w w' := by
  have := same_any w x y hx hy; rw [decide_eq_true he] at this; exact this
set_option maxRecDepth 20000 in
theorem sameNode_eq (w : World) (m n : NodeV) (hm : m.ok w) (hn : n.ok w) (he : m.pl = n.pl) : Calls Try.prog 70 #[m.valA, n.valA] w fun e w' => e = .returned (.bool true) ∧ Ext w w' := by
  simp only [NodeV.pl, NodeP.mk.injEq] at he
  obtain ⟨e1, e2, e3, e4, e5, e6, e7, e8, e9⟩ := he
  refine calls_of tab tabOk Try.func70 rfl rfl rfl [] (fun _ => ⟨none, 0⟩) [.agg [.c (.int .i64 m.kind), .c (.int .i64 m.a), .c (.int .i64 m.b), .c m.shape.val, .c (.int .i64 m.lo), .c (.int .i64 m.hi), .c (.int .i64 m.size), .c m.data.val, .c m.bias.val], .agg [.c (.int .i64 n.kind), .c (.int .i64 n.a), .c (.int .i64 n.b), .c n.shape.val, .c (.int .i64 n.lo), .c (.int .i64 n.hi), .c (.int .i64 n.size), .c n.data.val, .c n.bias.val]] [] (baseA w) 0 rfl rfl (by show 2 ≤ _; decide) (abs_base w) ?_
  (repeat' ((conv => whnf) <;> first | (show @cmpK _ _ _; (refine cmp_yes (by assumption) ?_)) | (show callK _ 39 [.c m.shape.val, .c n.shape.val] _ _ _ _; (refine call_pure (f := 39) Try.call39 (.bool true) (fun ρ w' hw => same_yes (holds_of_abs hw fun R h => hm.shape.later h) (holds_of_abs hw fun R h => hn.shape.later h) e4) ?_)) | (show callK _ 39 [.c m.data.val, .c n.data.val] _ _ _ _; (refine call_pure (f := 39) Try.call39 (.bool true) (fun ρ w' hw => same_yes (holds_of_abs hw fun R h => hm.data.later h) (holds_of_abs hw fun R h => hn.data.later h) e8) ?_)) | (show callK _ 39 [.c m.bias.val, .c n.bias.val] _ _ _ _; (refine call_pure (f := 39) Try.call39 (.bool true) (fun ρ w' hw => same_yes (holds_of_abs hw fun R h => hm.bias.later h) (holds_of_abs hw fun R h => hn.bias.later h) e9) ?_)) | (show Wp _ _ _ _ _ _ _; (refine Wp.go tabOk rfl ?_)) | (show @cmpK _ _ _; (first | refine cmp_yes (by omega) ?_ | refine cmp_no (by omega) ?_ | (refine cmp_both ?_ ?_ <;> intro _))) | (show wrapK _ _ _; (refine wrap_i64 (by omega) (by omega) ?_)) | (show leK _ _ _; (refine le_of (by first | exact Nat.le_refl _ | omega) ?_)) | (show roomK _ _ _; (refine room_of (by first | omega | (dsimp only; omega)) ?_)) | (show ltK _ _ _; (refine lt_of (by omega) ?_)) | (show _ ∧ _; (refine ⟨?_, ?_⟩)) | (show keepK _ _ _ _ _; (refine keep_of (by first | exact List.Sublist.refl _ | exact List.Sublist.cons _ (List.Sublist.refl _) | exact List.Sublist.cons _ (List.Sublist.cons _ (List.Sublist.refl _)) | exact List.Sublist.cons _ (List.Sublist.cons _ (List.Sublist.cons _ (List.Sublist.refl _)))) (by first | exact (fun _ _ h => h) | exact (fun _ _ h => h.1) | exact (fun _ _ h => h.1.1)) ?_)) | (show ownK _ _ _ _ _; (refine own_keep ?_))))
  exact ends_bool (fun _ _ h => h) rfl rfl
structure GraphV.fit (w : World) (g : GraphV) : Prop where
  rows : RowsI w g.base 9 (nodeRows g.l)
  each : ∀ n ∈ g.l, n.ok w
  few : g.l.length ≤ 1000000
theorem GraphV.fit.later {w w' : World} {R : Nat → Prop} {g : GraphV} (h : g.fit w) (hb : (baseA w).holds R w') : g.fit w' := ⟨rows_base hb h.rows, fun n hn => (h.each n hn).later hb, h.few⟩
set_option maxRecDepth 20000 in
theorem sameGraph_eq (w : World) (x y : GraphV) (hx : x.fit w) (hy : y.fit w) (he : x.l.map NodeV.pl = y.l.map NodeV.pl) (ho : x.out = y.out) : Calls Try.prog 30 #[x.val, y.val] w fun e w' => e = .returned (.bool true) ∧ Ext w w' := by
  have hl : x.l.length = y.l.length := by simpa using congrArg List.length he
  have hfew := hx.few
  refine calls_of tab tabOk Try.func30 rfl rfl rfl [] (fun _ => ⟨none, 0⟩) [.agg [.c (.slice x.base x.l.length x.cap), .c (.int .i64 x.out)], .agg [.c (.slice y.base y.l.length y.cap), .c (.int .i64 y.out)]] [] (baseA w) 0 rfl rfl (by show 2 ≤ _; decide) (abs_base w) ?_
  (repeat' ((conv => whnf) <;> first | (show drawK _ 6 _ _ _ _ _ _; (refine draw_quiet tabOk mixed (by kernel_rfl) ?_)) | (show Wp _ _ _ _ _ _ _; (refine Wp.go tabOk rfl ?_)) | (show @cmpK _ _ _; (first | refine cmp_yes (by omega) ?_ | refine cmp_no (by omega) ?_ | (refine cmp_both ?_ ?_ <;> intro _))) | (show wrapK _ _ _; (refine wrap_i64 (by omega) (by omega) ?_)) | (show leK _ _ _; (refine le_of (by first | exact Nat.le_refl _ | omega) ?_)) | (show roomK _ _ _; (refine room_of (by first | omega | (dsimp only; omega)) ?_)) | (show ltK _ _ _; (refine lt_of (by omega) ?_)) | (show _ ∧ _; (refine ⟨?_, ?_⟩)) | (show keepK _ _ _ _ _; (refine keep_of (by first | exact List.Sublist.refl _ | exact List.Sublist.cons _ (List.Sublist.refl _) | exact List.Sublist.cons _ (List.Sublist.cons _ (List.Sublist.refl _)) | exact List.Sublist.cons _ (List.Sublist.cons _ (List.Sublist.cons _ (List.Sublist.refl _)))) (by first | exact (fun _ _ h => h) | exact (fun _ _ h => h.1) | exact (fun _ _ h => h.1.1)) ?_)) | (show ownK _ _ _ _ _; (refine own_keep ?_))))
  refine Wp.loop (σ := Nat) 2 (fun k => [(22, .c (.int .i64 x.l.length)), (23, .c (.int .i64 k)), (2, .lp 0 0 0 0), (3, .lp 1 0 0 0)]) (fun _ => [(1, .box [.c (.slice y.base y.l.length y.cap), .c (.int .i64 y.out)] 24), (0, .box [.c (.slice x.base x.l.length x.cap), .c (.int .i64 x.out)] 24)]) (fun _ => baseA w)
    (fun k => k ≤ x.l.length) (fun k => x.l.length - k) 0 [] (by decide) (fun s => ⟨rfl, rfl⟩) (by simp) ⟨rfl, ⟨rfl, rfl, rfl, rfl, trivial⟩, ⟨List.mem_cons_self, List.mem_cons_of_mem _ List.mem_cons_self, trivial⟩, fun R w' h => h⟩ ?_
  rintro k hk
  by_cases hlt : k < x.l.length
  · obtain ⟨a, ha⟩ : ∃ a, x.base = some a := base_some (j := k) hx.rows (by rw [nodeRows_length]; omega)
    obtain ⟨b, hb⟩ : ∃ a, y.base = some a := base_some (j := k) hy.rows (by rw [nodeRows_length]; omega)
    have hly : k < y.l.length := by omega
    have hxy : x.l[k].pl = y.l[k].pl := by
      have := congrArg (fun l => l[k]?) he
      simpa [hlt, hly] using this
    have hxk := hx.each _ (List.getElem_mem hlt)
    have hyk := hy.each _ (List.getElem_mem hly)
    have hxr := nodeRows_get hlt
    have hyr := nodeRows_get hly
    generalize x.l[k] = m at *
    generalize y.l[k] = n at *
    (repeat' ((conv => whnf) <;> first | (show idxK _ _ _ _ _; (first | refine idx_of a k ha rfl hlt ?_ | refine idx_of b k hb rfl hly ?_)) | (show roAggK _ _ _ _; (first | refine roAgg_row (fun R w' h => by rw [← ha]; exact rows_base h hx.rows) _ hxr rfl ?_ | refine roAgg_row (fun R w' h => by rw [← hb]; exact rows_base h hy.rows) _ hyr rfl ?_)) | (show callQ _ 70 _ _ _ _ _; (refine callQ_of (f := 70) Try.call70 (.bool true) (fun ρ w' hw => sameNode_eq w' m n (holds_of_abs hw fun R h => hxk.later h) (holds_of_abs hw fun R h => hyk.later h) hxy) ?_)) | (show drawK _ 6 _ _ _ _ _ _; (refine draw_quiet tabOk mixed (by kernel_rfl) ?_)) | (show Wp _ _ _ _ _ _ _; (refine Wp.go tabOk rfl ?_)) | (show @cmpK _ _ _; (first | refine cmp_yes (by omega) ?_ | refine cmp_no (by omega) ?_ | (refine cmp_both ?_ ?_ <;> intro _))) | (show wrapK _ _ _; (refine wrap_i64 (by omega) (by omega) ?_)) | (show leK _ _ _; (refine le_of (by first | exact Nat.le_refl _ | omega) ?_)) | (show roomK _ _ _; (refine room_of (by first | omega | (dsimp only; omega)) ?_)) | (show ltK _ _ _; (refine lt_of (by omega) ?_)) | (show _ ∧ _; (refine ⟨?_, ?_⟩)) | (show keepK _ _ _ _ _; (refine keep_of (by first | exact List.Sublist.refl _ | exact List.Sublist.cons _ (List.Sublist.refl _) | exact List.Sublist.cons _ (List.Sublist.cons _ (List.Sublist.refl _)) | exact List.Sublist.cons _ (List.Sublist.cons _ (List.Sublist.cons _ (List.Sublist.refl _)))) (by first | exact (fun _ _ h => h) | exact (fun _ _ h => h.1) | exact (fun _ _ h => h.1.1)) ?_)) | (show ownK _ _ _ _ _; (refine own_keep ?_))))
    exact ⟨k + 1, [], hlt, by omega, rfl, ⟨rfl, rfl, rfl, rfl, trivial⟩, ⟨List.mem_cons_self, List.mem_cons_of_mem _ List.mem_cons_self, trivial⟩, fun R w' h => h⟩
  · (repeat' ((conv => whnf) <;> first | (show drawK _ 6 _ _ _ _ _ _; (refine draw_quiet tabOk mixed (by kernel_rfl) ?_)) | (show Wp _ _ _ _ _ _ _; (refine Wp.go tabOk rfl ?_)) | (show @cmpK _ _ _; (first | refine cmp_yes (by omega) ?_ | refine cmp_no (by omega) ?_ | (refine cmp_both ?_ ?_ <;> intro _))) | (show wrapK _ _ _; (refine wrap_i64 (by omega) (by omega) ?_)) | (show leK _ _ _; (refine le_of (by first | exact Nat.le_refl _ | omega) ?_)) | (show roomK _ _ _; (refine room_of (by first | omega | (dsimp only; omega)) ?_)) | (show ltK _ _ _; (refine lt_of (by omega) ?_)) | (show _ ∧ _; (refine ⟨?_, ?_⟩)) | (show keepK _ _ _ _ _; (refine keep_of (by first | exact List.Sublist.refl _ | exact List.Sublist.cons _ (List.Sublist.refl _) | exact List.Sublist.cons _ (List.Sublist.cons _ (List.Sublist.refl _)) | exact List.Sublist.cons _ (List.Sublist.cons _ (List.Sublist.cons _ (List.Sublist.refl _)))) (by first | exact (fun _ _ h => h) | exact (fun _ _ h => h.1) | exact (fun _ _ h => h.1.1)) ?_)) | (show ownK _ _ _ _ _; (refine own_keep ?_))))
    exact ends_bool (fun _ _ h => h) rfl rfl
end Go.Proofs.Ytajbngkcgbehlaa
/- SM -/
namespace Go.Proofs.Ytajbngkcgbehlaa
open Go.SX Go.RowKit
def readShape (s : RdS) : List Int × RdS := readMany (rdNum 1) (rdNum 1 s).1.toNat (rdNum 1 s).2
abbrev ndA (s : RdS) := rdNum 1 s
abbrev ndB (s : RdS) := rdNum 1 (ndA s).2
abbrev ndC (s : RdS) := rdNum 1 (ndB s).2
abbrev ndS (s : RdS) := readShape (ndC s).2
abbrev ndL (s : RdS) := rdSigned (ndS s).2
abbrev ndH (s : RdS) := rdSigned (ndL s).2
abbrev ndZ (s : RdS) := rdNum 1 (ndH s).2
abbrev ndD (s : RdS) := readRow (ndZ s).2
abbrev ndE (s : RdS) := readRow (ndD s).2
def readNode (s : RdS) : NodeP × RdS := (⟨(ndA s).1, (ndB s).1, (ndC s).1, (ndS s).1, (ndL s).1, (ndH s).1, (ndZ s).1, (ndD s).1, (ndE s).1⟩, (ndE s).2)
structure NodeV.sane (n : NodeV) : Prop where
  shape : n.shape.sane
  data : n.data.sane
  bias : n.bias.sane
  kindFits : i64 n.kind
  aFits : i64 n.a
  bFits : i64 n.b
  loFits : i64 n.lo
  hiFits : i64 n.hi
  sizeFits : i64 n.size
abbrev RNodePost (T : TypeId) (w : World) (b : Nat) (u : RdV) (e : Int) : Ending → World → Prop := RdPostD T w b u NodeV.valA (fun n => nodeD n false) NodeV.pl NodeV.sane (readNode (u.bs, e))
theorem rd1_bound {s : RdS} (hb : ∀ x ∈ s.1, 0 ≤ x ∧ x ≤ 255) : 0 ≤ (rdNum 1 s).1 ∧ (rdNum 1 s).1 ≤ 255 := by
  unfold rdNum
  split
  · exact ⟨Int.le_refl _, (show (0 : Int) ≤ 255 by decide)⟩
  · split
    · exact ⟨Int.le_refl _, (show (0 : Int) ≤ 255 by decide)⟩
    · have h := valB_bound (l := s.1.take 1) (fun x hx => hb x (List.mem_of_mem_take hx))
      have hl : (s.1.take 1).length = 1 := by rw [List.length_take]; omega
      rw [hl] at h
      have : valB (List.take 1 s.1) < 256 := h.2
      exact ⟨h.1, by show valB (List.take 1 s.1) ≤ _; omega⟩
theorem rdBase_and {u : RdV} {S D : Asn} (h : RdBase u S) : RdBase u (S.and D) := ⟨h.small, h.bytes, fun R w' hh => h.data R w' hh.1⟩
theorem ry_row {B : Base} {m i : Nat} {H : Heap} {S : Asn} {nx : Nat} {K : SV → Heap → Asn → Nat → Prop} {u0 u : RdV} {s : RdS} (hi : (i, Ent.box (cs (rcells u s.2)) 125) ∈ H) (h0 : RdBase u0 S) (hr : SX.Rest u0 u) (hbs : u.bs = s.1)
    (h : ∀ (y : IntsV) u', SX.Rest u0 u' → u'.bs = (readRow s).2.1 → y.xs = (readRow s).1 → y.sane → K (.c y.val) (setH i (.box (cs (rcells u' (readRow s).2.2)) 125) H) (S.and ((intsA y).past B.w0.heap.size)) nx) : callK ⟨Try.prog, B, m, tab⟩ 101 [.lp i 0 0 0, .fn (.func 100) [.lp i 0 0 0] []] H S nx K :=
  call_rxD (fun p => [p, .func (.func 100) #[p] #[]]) (fun ρ b hb => by simp [SV.rfs, SV.rf, hb, add_none]) IntsV.val intsA IntsV.xs IntsV.sane readRow hi Try.call101 h0 hr hbs (fun w' b' h => prow_any w' b' u s.2 h) h
theorem ry_rrow {B : Base} {m i : Nat} {H : Heap} {S : Asn} {nx : Nat} {K : SV → Heap → Asn → Nat → Prop} {u0 u : RdV} {s : RdS} (hi : (i, Ent.box (cs (rcells u s.2)) 100) ∈ H) (h0 : RdBase u0 S) (hr : SX.Rest u0 u) (hbs : u.bs = s.1)
    (h : ∀ (y : IntsV) u', SX.Rest u0 u' → u'.bs = (readRow s).2.1 → y.xs = (readRow s).1 → y.sane → K (.c y.val) (setH i (.box (cs (rcells u' (readRow s).2.2)) 100) H) (S.and ((intsA y).past B.w0.heap.size)) nx) : callK ⟨Try.prog, B, m, tab⟩ 67 [.agg [.lp i 0 0 0], .c (.int .i64 4)] H S nx K :=
  call_rxD (fun p => [.agg #[p], .int .i64 4]) (fun ρ b hb => by simp [SV.rfs, SV.rf, hb, add_none]) IntsV.val intsA IntsV.xs IntsV.sane readRow hi Try.call67 h0 hr hbs (fun w' b' h => rrow_any w' b' u s.2 h) h
theorem rnode_ends {w : World} {b : Nat} {u u' : RdV} {e k a c lo hi size : Int} {d f : IntsV} {acc : List Int} {s : RdS} {H : Heap} {S : Asn} {nx j m : Nat} (hr : SX.Rest u u') (hbs : u'.bs = s.1) (hrd : ((⟨k, a, c, acc, lo, hi, size, d.xs, f.xs⟩ : NodeP), s) = readNode (u.bs, e)) (hd : d.sane) (hf : f.sane) (hk : i64 k) (ha : i64 a) (hc : i64 c) (hlo : i64 lo) (hhi : i64 hi) (hz : i64 size)
    (h0 : (0, Ent.box (cs (rcells u' s.2)) 125) ∈ H) (he : (j, Ent.rows (ints acc) 1 3) ∈ H) (hj : j ≠ 0) (hm : m = acc.length) (hff : ∀ x ∈ acc, i64 x) (hl : acc.length ≤ 1000000) (hS : ∀ R w', S.holds R w' → (restA w b).holds R w') (hD : ∀ R w', S.holds R w' → ((intsA d).past w.heap.size).holds R w') (hF : ∀ R w', S.holds R w' → ((intsA f).past w.heap.size).holds R w') :
    finK ⟨w, [(0, boxL b)]⟩ (.agg [.c (.int .i64 k), .c (.int .i64 a), .c (.int .i64 c), .os j m, .c (.int .i64 lo), .c (.int .i64 hi), .c (.int .i64 size), .c d.val, .c f.val]) H S nx (RNodePost 125 w b u e) := by
  refine fin_of fun ρ w' hw => ?_
  obtain ⟨y, e1, h1, h2, h3⟩ := own_new hw hS h0 he hj hm hff hl
  refine ⟨(⟨k, a, c, y, lo, hi, size, d, f⟩, u', s.2), ⟨hr, ?_, ⟨h2, hd, hf, hk, ha, hc, hlo, hhi, hz⟩⟩, ?_, (box_end hw hS h0).1, (box_end hw hS h0).2, ⟨fun _ => h3, past_new hw hD, past_new hw hF⟩⟩
  · rw [← hrd]
    simp only [NodeV.pl, h1, hbs]
  · have : (SV.agg [.c (.int .i64 k), .c (.int .i64 a), .c (.int .i64 c), .os j m, .c (.int .i64 lo), .c (.int .i64 hi), .c (.int .i64 size), .c d.val, .c f.val]).rf ρ = Value.agg #[.int .i64 k, .int .i64 a, .int .i64 c, (SV.os j m).rf ρ, .int .i64 lo, .int .i64 hi, .int .i64 size, d.val, f.val] := rfl
    rw [this, e1]; rfl
theorem Reading.next' {α : Type} {f : RdS → α × RdS} {acc : List α} {k : Int} {s : RdS} {r : List α × RdS} (h : Reading f acc k.toNat s r) (hk : 0 < k) (h0 : s.2 = 0) : Reading f (acc ++ [(f s).1]) (k - 1).toNat (f s).2 r := by
  have e : k.toNat = (k - 1).toNat + 1 := by omega
  rw [e] at h
  exact h.next h0
theorem bytes_rest {u v : RdV} (hr : SX.Rest u v) {s : RdS} (hbs : v.bs = s.1) (hby : ∀ x ∈ u.bs, 0 ≤ x ∧ x ≤ 255) : ∀ x ∈ s.1, 0 ≤ x ∧ x ≤ 255 := by rw [← hbs]; exact hr.bytes hby
theorem num_i64 {n : Int} (h : 0 ≤ n ∧ n ≤ 255) : i64 n := ⟨by omega, by omega⟩
theorem fits_snoc {acc : List Int} {x : Int} (hf : ∀ y ∈ acc, i64 y) (hx : i64 x) : ∀ y ∈ acc ++ [x], i64 y := fun y hy => by
  rcases List.mem_append.1 hy with h | h
  · exact hf y h
  · simp at h; subst h; exact hx
set_option maxRecDepth 20000 in
theorem node_rd (w : World) (b : Nat) (u : RdV) (e : Int) (h : RdOk 125 w b u e) : Calls Try.prog 63 #[.pointer (some ⟨b, 0, none⟩)] w (RNodePost 125 w b u e) := by
  obtain ⟨hs, hby, hrm, hd, hb⟩ := h
  have h0 := base_rest hs hby hd
  have hr := SX.Rest.refl hrm
  obtain ⟨s, hbs, rfl⟩ : ∃ s : RdS, u.bs = s.1 ∧ e = s.2 := ⟨(u.bs, e), rfl, rfl⟩
  have hE : (u.bs, s.2) = s := by rw [hbs]
  have b0 := bytes_rest hr hbs hby
  have b1 := rd1_bound (s := s) b0
  have b2 := rd1_bound (s := (ndA s).2) (rdNum_bytes b0)
  have b3 := rd1_bound (s := (ndB s).2) (rdNum_bytes (rdNum_bytes b0))
  have b4 := rd1_bound (s := (ndC s).2) (rdNum_bytes (rdNum_bytes (rdNum_bytes b0)))
  refine calls_of tab tabOk Try.func63 rfl rfl rfl [(0, boxL b)] (fun _ => boxL b) [.lp 0 0 0 0] _ (restA w b) 1 (by simp [SV.rfs, SV.rf, boxL, add_none]) rfl (by show 1 ≤ _; decide) (abs_box hb) ?_
  (repeat' ((conv => whnf) <;> first | (show callK _ 57 _ _ _ _ _; (refine ry_one (by repeat (first | exact List.mem_cons_self | apply List.mem_cons_of_mem)) (by first | exact h0 | exact rdBase_and h0 | exact rdBase_and (rdBase_and h0) | exact rdBase_and (rdBase_and (rdBase_and h0))) hr hbs (fun v hr hbs => ?_))) | (show callK _ 100 _ _ _ _ _; (refine ry_signed (by repeat (first | exact List.mem_cons_self | apply List.mem_cons_of_mem)) (by first | exact h0 | exact rdBase_and h0 | exact rdBase_and (rdBase_and h0) | exact rdBase_and (rdBase_and (rdBase_and h0))) hr hbs (fun v hr hbs => ?_))) | (show keepK _ _ _ _ _; (refine keep_of (by repeat (first | exact List.Sublist.refl _ | exact List.nil_sublist _ | apply List.Sublist.cons_cons | apply List.Sublist.cons)) (by first | exact (fun _ _ h => h) | exact (fun _ _ h => h.1) | exact (fun _ _ h => h.1.1)) ?_)) | (show drawK _ 1 _ _ _ _ _ _; (refine draw_tree tabOk mixed [8] _ (.take 0 (.take 2 (.take 4 (.alt 1 (.alt 3 (.alt 5 (.take 6 (.one 7 (.one 8 (.done)))) (.one 7 (.one 5 (.take 6 (.one 8 (.done)))))) (.one 7 (.one 3 (.one 5 (.take 6 (.one 8 (.done))))))) (.one 7 (.one 1 (.one 3 (.one 5 (.take 6 (.one 8 (.done))))))))))) (by kernel_rfl) (by kernel_rfl) (by kernel_rfl) (List.Sublist.cons_cons _ (List.Sublist.cons_cons _ (List.nil_sublist _))) ?_)) | (show drawK _ 2 _ _ _ _ _ _; (refine draw_tree tabOk mixed [] _ (.take 0 (.take 1 (.take 3 (.one 2 (.one 4 (.done)))))) (by kernel_rfl) (by kernel_rfl) (by kernel_rfl) (List.Sublist.cons _ (List.Sublist.cons_cons _ (List.Sublist.cons_cons _ (List.nil_sublist _)))) ?_)) | (show Wp _ _ _ _ _ _ _; (refine Wp.go tabOk rfl ?_)) | (show @cmpK _ _ _; (first | refine cmp_yes (by omega) ?_ | refine cmp_no (by omega) ?_ | (refine cmp_both ?_ ?_ <;> intro _))) | (show wrapK _ _ _; (refine wrap_i64 (by omega) (by omega) ?_)) | (show leK _ _ _; (refine le_of (by first | exact Nat.le_refl _ | omega) ?_)) | (show roomK _ _ _; (refine room_of (by first | omega | (dsimp only; omega)) ?_)) | (show ltK _ _ _; (refine lt_of (by omega) ?_)) | (show _ ∧ _; (refine ⟨?_, ?_⟩)) | (show keepK _ _ _ _ _; (refine keep_of (by first | exact List.Sublist.refl _ | exact List.Sublist.cons _ (List.Sublist.refl _) | exact List.Sublist.cons _ (List.Sublist.cons _ (List.Sublist.refl _)) | exact List.Sublist.cons _ (List.Sublist.cons _ (List.Sublist.cons _ (List.Sublist.refl _)))) (by first | exact (fun _ _ h => h) | exact (fun _ _ h => h.1) | exact (fun _ _ h => h.1.1)) ?_)) | (show ownK _ _ _ _ _; (refine own_keep ?_))))
  all_goals
    refine call_inline tabOk Try.func61 rfl rfl rfl Try.call61 rfl (by show 3 ≤ _; decide) ?_
    
    (repeat' ((conv => whnf) <;> first | (show Wp _ _ _ _ _ _ _; (refine Wp.go tabOk rfl ?_)) | (show @cmpK _ _ _; (first | refine cmp_yes (by omega) ?_ | refine cmp_no (by omega) ?_ | (refine cmp_both ?_ ?_ <;> intro _))) | (show wrapK _ _ _; (refine wrap_i64 (by omega) (by omega) ?_)) | (show leK _ _ _; (refine le_of (by first | exact Nat.le_refl _ | omega) ?_)) | (show roomK _ _ _; (refine room_of (by first | omega | (dsimp only; omega)) ?_)) | (show ltK _ _ _; (refine lt_of (by omega) ?_)) | (show _ ∧ _; (refine ⟨?_, ?_⟩)) | (show keepK _ _ _ _ _; (refine keep_of (by first | exact List.Sublist.refl _ | exact List.Sublist.cons _ (List.Sublist.refl _) | exact List.Sublist.cons _ (List.Sublist.cons _ (List.Sublist.refl _)) | exact List.Sublist.cons _ (List.Sublist.cons _ (List.Sublist.cons _ (List.Sublist.refl _)))) (by first | exact (fun _ _ h => h) | exact (fun _ _ h => h.1) | exact (fun _ _ h => h.1.1)) ?_)) | (show ownK _ _ _ _ _; (refine own_keep ?_))))
    refine Wp.loop (σ := Int × Nat × List Int × RdS × RdV) 5 (fun ⟨k, m, _, _, _⟩ => [(0, .lp 0 0 0 0), (1, .c (.int .i64 k)), (2, .fn (.func 99) [] [.lp 3 0 0 0, .lp 1 0 0 0])])
      (fun ⟨_, m, acc, s', v⟩ => [(4, .rows (ints acc) 1 3), (3, .box [.c (.int .i64 (ndA s).1), .c (.int .i64 (ndB s).1), .c (.int .i64 (ndC s).1), .os 4 m, .c (.int .i64 0), .c (.int .i64 0), .c (.int .i64 0), .c (.slice none 0 0), .c (.slice none 0 0)] 43), (2, .box (cs [.int .i64 0, .int .i64 0, .int .i64 0, .slice none 0 0, .int .i64 0, .int .i64 0, .int .i64 0, .slice none 0 0, .slice none 0 0]) 43), (1, .box [.lp 0 0 0 0] 93), (0, .box (cs (rcells v s'.2)) 125)]) (fun _ => restA w b)
      (fun ⟨k, m, acc, s', v⟩ => Reading (rdNum 1) acc k.toNat s' (ndS s) ∧ m = acc.length ∧ 0 ≤ k ∧ acc.length + k ≤ 255 ∧ (∀ x ∈ acc, i64 x) ∧ SX.Rest u v ∧ v.bs = s'.1) (fun s => s.1.toNat) ((rdNum 1 (ndC s).2).1, 0, [], (rdNum 1 (ndC s).2).2, _) [(4, none)] (by decide) (fun s => ⟨rfl, rfl⟩)
      ⟨Reading.start _ _ _, rfl, b4.1, by simp; omega, fun x hx => by simp at hx, hr, hbs⟩ ⟨rfl, ⟨rfl, rfl, rfl, trivial⟩, ⟨rfl, (by repeat (first | exact List.mem_cons_self | apply List.mem_cons_of_mem)), (by repeat (first | exact List.mem_cons_self | apply List.mem_cons_of_mem)), (by repeat (first | exact List.mem_cons_self | apply List.mem_cons_of_mem)), (by repeat (first | exact List.mem_cons_self | apply List.mem_cons_of_mem)), trivial⟩, fun _ _ h => h⟩ ?_
    rintro ⟨k, m, acc, s', v'⟩ ⟨hR, hm, hk0, hl, hf, hr, hbs⟩
    by_cases hgo : 0 < k ∧ s'.2 = 0
    · have hz := hgo.2
      have hx := num_i64 (rd1_bound (s := s') (bytes_rest hr hbs hby))
      (repeat' ((conv => whnf) <;> first | (show Wp _ _ _ _ _ _ _; (refine Wp.go tabOk rfl ?_)) | (show @cmpK _ _ _; (first | refine cmp_yes (by omega) ?_ | refine cmp_no (by omega) ?_ | (refine cmp_both ?_ ?_ <;> intro _))) | (show wrapK _ _ _; (refine wrap_i64 (by omega) (by omega) ?_)) | (show leK _ _ _; (refine le_of (by first | exact Nat.le_refl _ | omega) ?_)) | (show roomK _ _ _; (refine room_of (by first | omega | (dsimp only; omega)) ?_)) | (show ltK _ _ _; (refine lt_of (by omega) ?_)) | (show _ ∧ _; (refine ⟨?_, ?_⟩)) | (show keepK _ _ _ _ _; (refine keep_of (by first | exact List.Sublist.refl _ | exact List.Sublist.cons _ (List.Sublist.refl _) | exact List.Sublist.cons _ (List.Sublist.cons _ (List.Sublist.refl _)) | exact List.Sublist.cons _ (List.Sublist.cons _ (List.Sublist.cons _ (List.Sublist.refl _)))) (by first | exact (fun _ _ h => h) | exact (fun _ _ h => h.1) | exact (fun _ _ h => h.1.1)) ?_)) | (show ownK _ _ _ _ _; (refine own_keep ?_))))
      refine call_inline tabOk Try.func99 rfl rfl rfl Try.call99 rfl (by show 2 ≤ _; decide) ?_
      
      (repeat' ((conv => whnf) <;> first | (show drawK _ 0 _ _ _ _ _ _; (refine draw_tree tabOk mixed [] [] (.alt 0 (.alt 1 (.one 2 (.one 3 (.one 4 (.one 5 (.one 6 (.one 7 (.done))))))) (.one 2 (.alt 1 (.one 3 (.one 4 (.one 5 (.one 6 (.one 7 (.done)))))) (.one 3 (.alt 1 (.one 4 (.one 5 (.one 6 (.one 7 (.done))))) (.one 4 (.one 1 (.one 5 (.one 6 (.one 7 (.done))))))))))) (.one 2 (.alt 0 (.alt 1 (.one 3 (.one 4 (.one 5 (.one 6 (.one 7 (.done)))))) (.one 3 (.alt 1 (.one 4 (.one 5 (.one 6 (.one 7 (.done))))) (.one 4 (.one 1 (.one 5 (.one 6 (.one 7 (.done))))))))) (.one 3 (.alt 0 (.alt 1 (.one 4 (.one 5 (.one 6 (.one 7 (.done))))) (.one 4 (.one 1 (.one 5 (.one 6 (.one 7 (.done))))))) (.one 4 (.one 0 (.one 1 (.one 5 (.one 6 (.one 7 (.done)))))))))))) (by kernel_rfl) (by kernel_rfl) (by kernel_rfl) (List.nil_sublist _) ?_)) | (show keepK _ _ _ _ _; (refine keep_of (List.nil_sublist _) (fun _ _ h => h) ?_)) | (show callK _ 57 _ _ _ _ _; (refine ry_one (by repeat (first | exact List.mem_cons_self | apply List.mem_cons_of_mem)) h0 hr hbs (fun v hr hbs => ?_))) | (show leK _ _ _; (refine le_of (by rw [ints_length, hm]; exact Nat.le_refl _) ?_)) | (show roomK _ _ _; (refine room_of (by show (m + 1) * 8 ≤ 140737488355328; omega) ?_)) | (show doneK _ _ _ _ _; (refine done_of ?_)) | (show Wp _ _ _ _ _ _ _; (refine Wp.go tabOk rfl ?_)) | (show @cmpK _ _ _; (first | refine cmp_yes (by omega) ?_ | refine cmp_no (by omega) ?_ | (refine cmp_both ?_ ?_ <;> intro _))) | (show wrapK _ _ _; (refine wrap_i64 (by omega) (by omega) ?_)) | (show leK _ _ _; (refine le_of (by first | exact Nat.le_refl _ | omega) ?_)) | (show roomK _ _ _; (refine room_of (by first | omega | (dsimp only; omega)) ?_)) | (show ltK _ _ _; (refine lt_of (by omega) ?_)) | (show _ ∧ _; (refine ⟨?_, ?_⟩)) | (show keepK _ _ _ _ _; (refine keep_of (by first | exact List.Sublist.refl _ | exact List.Sublist.cons _ (List.Sublist.refl _) | exact List.Sublist.cons _ (List.Sublist.cons _ (List.Sublist.refl _)) | exact List.Sublist.cons _ (List.Sublist.cons _ (List.Sublist.cons _ (List.Sublist.refl _)))) (by first | exact (fun _ _ h => h) | exact (fun _ _ h => h.1) | exact (fun _ _ h => h.1.1)) ?_)) | (show ownK _ _ _ _ _; (refine own_keep ?_))))
      all_goals (conv => whnf)
      all_goals exact ⟨(k - 1, m + 1, acc ++ [(rdNum 1 s').1], (rdNum 1 s').2, _), [(4, some 6)], ⟨hR.next' hgo.1 hz, by rw [hm]; simp, by omega, by rw [List.length_append, List.length_singleton]; omega, fits_snoc hf hx, by assumption, by assumption⟩, by simp only; omega, rfl, ⟨rfl, rfl, rfl, trivial⟩, ⟨ints_snoc' _ _ hm, (by repeat (first | exact List.mem_cons_self | apply List.mem_cons_of_mem)), (by repeat (first | exact List.mem_cons_self | apply List.mem_cons_of_mem)), (by repeat (first | exact List.mem_cons_self | apply List.mem_cons_of_mem)), (by repeat (first | exact List.mem_cons_self | apply List.mem_cons_of_mem)), trivial⟩, fun _ _ h => h⟩
    · have hst := hR.stop (by omega)
      obtain ⟨rfl, rfl⟩ : acc = (ndS s).1 ∧ s' = (ndS s).2 := by rw [← hst]; exact ⟨rfl, rfl⟩
      have c0 := bytes_rest hr hbs hby
      have c1 := rdNum_bound (n := 4) (s := (ndS s).2) (by decide) c0
      have c2 := rdNum_bound (n := 4) (s := (ndL s).2) (by decide) (rdNum_bytes c0)
      have c3 := rd1_bound (s := (ndH s).2) (rdNum_bytes (rdNum_bytes c0))
      (repeat' ((conv => whnf) <;> first | (show doneK _ _ _ _ _; (refine done_of ?_)) | (show callK _ 57 _ _ _ _ _; (refine ry_one (by repeat (first | exact List.mem_cons_self | apply List.mem_cons_of_mem)) (by first | exact h0 | exact rdBase_and h0 | exact rdBase_and (rdBase_and h0) | exact rdBase_and (rdBase_and (rdBase_and h0))) hr hbs (fun v hr hbs => ?_))) | (show callK _ 100 _ _ _ _ _; (refine ry_signed (by repeat (first | exact List.mem_cons_self | apply List.mem_cons_of_mem)) (by first | exact h0 | exact rdBase_and h0 | exact rdBase_and (rdBase_and h0) | exact rdBase_and (rdBase_and (rdBase_and h0))) hr hbs (fun v hr hbs => ?_))) | (show keepK _ _ _ _ _; (refine keep_of (by repeat (first | exact List.Sublist.refl _ | exact List.nil_sublist _ | apply List.Sublist.cons_cons | apply List.Sublist.cons)) (by first | exact (fun _ _ h => h) | exact (fun _ _ h => h.1) | exact (fun _ _ h => h.1.1)) ?_)) | (show callK _ 101 _ _ _ _ _; (refine ry_row (by repeat (first | exact List.mem_cons_self | apply List.mem_cons_of_mem)) (by first | exact h0 | exact rdBase_and h0 | exact rdBase_and (rdBase_and h0) | exact rdBase_and (rdBase_and (rdBase_and h0))) hr hbs (fun y v hr hbs hy hys => ?_))) | (show drawK _ 0 _ _ _ _ _ _; (refine draw_tree tabOk mixed [7] _ (.take 0 (.take 1 (.take 2 (.one 3 (.one 4 (.one 5 (.take 6 (.one 7 (.done))))))))) (by kernel_rfl) (by kernel_rfl) (by kernel_rfl) (List.Sublist.refl _) ?_)) | (show Wp _ _ _ _ _ _ _; (refine Wp.go tabOk rfl ?_)) | (show @cmpK _ _ _; (first | refine cmp_yes (by omega) ?_ | refine cmp_no (by omega) ?_ | (refine cmp_both ?_ ?_ <;> intro _))) | (show wrapK _ _ _; (refine wrap_i64 (by omega) (by omega) ?_)) | (show leK _ _ _; (refine le_of (by first | exact Nat.le_refl _ | omega) ?_)) | (show roomK _ _ _; (refine room_of (by first | omega | (dsimp only; omega)) ?_)) | (show ltK _ _ _; (refine lt_of (by omega) ?_)) | (show _ ∧ _; (refine ⟨?_, ?_⟩)) | (show keepK _ _ _ _ _; (refine keep_of (by first | exact List.Sublist.refl _ | exact List.Sublist.cons _ (List.Sublist.refl _) | exact List.Sublist.cons _ (List.Sublist.cons _ (List.Sublist.refl _)) | exact List.Sublist.cons _ (List.Sublist.cons _ (List.Sublist.cons _ (List.Sublist.refl _)))) (by first | exact (fun _ _ h => h) | exact (fun _ _ h => h.1) | exact (fun _ _ h => h.1.1)) ?_)) | (show ownK _ _ _ _ _; (refine own_keep ?_))))
      all_goals (conv => whnf)
      all_goals rename_i y1 v1 hr1 hbs1 hy1 hys1
      all_goals exact rnode_ends (d := y1) (f := y) (s := (ndE s).2) hr hbs (by rw [hE]; unfold readNode; rw [hy1, hy]) hys1 hys (num_i64 b1) (num_i64 b2) (num_i64 b3) (sg_i64 c1) (sg_i64 c2) (num_i64 c3) (by repeat (first | exact List.mem_cons_self | apply List.mem_cons_of_mem)) (by repeat (first | exact List.mem_cons_self | apply List.mem_cons_of_mem)) (by decide) hm hf (by omega) (fun _ _ h => h.1.1) (fun _ _ h => h.1.2) (fun _ _ h => h.2)
end Go.Proofs.Ytajbngkcgbehlaa
/- SN -/
namespace Go.Proofs.Ytajbngkcgbehlaa
open Go.SX Go.RowKit
def readNodes (s : RdS) : List NodeP × RdS := readMany readNode (rdNum 1 s).1.toNat (rdNum 1 s).2
abbrev rgN (bs : List Int) := readNodes (rdStart 6 (bs, 0))
abbrev rgO (bs : List Int) := rdNum 1 (rgN bs).2
abbrev rgZ (bs : List Int) := rdEnd (rgO bs).2
def graphP (l : List NodeP) (out : Int) : GraphV := ⟨none, 0, l.map NodeP.toV, out⟩
theorem pl_toV (n : NodeP) : n.toV.pl = n := rfl
theorem map_pl_toV (l : List NodeP) : (l.map NodeP.toV).map NodeV.pl = l := by
  induction l with
  | nil => rfl
  | cons n r ih => rw [List.map_cons, List.map_cons, ih, pl_toV]
/-- what is read of bytes: nodes, the number Out, an error -/
def readGraph (bs : List Int) : List NodeP × Int × Int :=
  if (rgZ bs).1 ≠ 0 then ([], 0, (rgZ bs).1)
  else if (check (graphP (rgN bs).1 (rgO bs).1)).1 ≠ 0 then ([], 0, (check (graphP (rgN bs).1 (rgO bs).1)).1)
  else ((rgN bs).1, (rgO bs).1, 0)
structure GraphV.sane (g : GraphV) : Prop where
  each : ∀ n ∈ g.l, n.sane
  few : g.l.length ≤ 1000
  outFits : i64 g.out
def nodesR (l : List NodeV) : Asn where
  holds R w := ∀ n ∈ l, (nodeD n false).holds R w
  stable := fun hR hw h n hn => (nodeD n false).stable hR hw (h n hn)
theorem nodesR_snoc {l : List NodeV} {n : NodeV} {N : Nat} {R : Nat → Prop} {w : World} (hl : ((nodesR l).past N).holds R w) (h : ((nodeD n false).past N).holds R w) : ((nodesR (l ++ [n])).past N).holds R w := fun m hm => by
  rcases List.mem_append.1 hm with hm | hm
  · exact hl m hm
  · simp at hm; subst hm; exact h
def graphD (g : GraphV) : Asn where
  holds R w := (rowsA g.base 9 (nodeRows g.l)).holds R w ∧ (nodesR g.l).holds R w
  stable := fun hR hw h => ⟨(rowsA g.base 9 (nodeRows g.l)).stable hR hw h.1, (nodesR g.l).stable hR hw h.2⟩
def GraphV.pl (g : GraphV) : List NodeP × Int := (g.l.map NodeV.pl, g.out)
def ReadPost (w : World) (r : List NodeP × Int × Int) (e : Ending) (w' : World) : Prop :=
  ∃ g : GraphV, g.pl = (r.1, r.2.1) ∧ g.sane ∧ e = .returned (.tuple #[g.val, .int .i64 r.2.2]) ∧ Ext w w' ∧ (graphD g).holds (fun b => w.heap.size ≤ b ∧ b < w'.heap.size) w'
def nilG : GraphV := ⟨none, 0, [], 0⟩
theorem nilG_sane : nilG.sane := ⟨fun n hn => by simp [nilG] at hn, by simp [nilG], z0⟩
theorem nilG_holds (R : Nat → Prop) (w : World) : (graphD nilG).holds R w := ⟨⟨fun r hr => by simp [nilG, nodeRows] at hr, .inl rfl⟩, fun n hn => by simp [nilG] at hn⟩
theorem read_bad {B : Base} {H : Heap} {S : Asn} {nx : Nat} {w : World} {r : List NodeP × Int × Int} {k : Int} (hb : ∀ R w', S.holds R w' → (baseA B.w0).holds R w') (hw0 : B.w0 = w) (hr : r = ([], 0, k)) : finK B (.tup [.agg [.c (.slice none 0 0), .c (.int .i64 0)], .c (.int .i64 k)]) H S nx (ReadPost w r) := by
  subst hw0 hr
  exact fin_of fun ρ w' hw => ⟨nilG, rfl, nilG_sane, rfl, ext_of_abs hw hb, nilG_holds _ _⟩
theorem sane_ok {n : NodeV} {R : Nat → Prop} {w : World} (hm : n.sane) (h : (nodeD n false).holds R w) : n.ok w :=
  ⟨intsA_ok hm.shape (h.1 rfl), intsA_ok hm.data h.2.1, intsA_ok hm.bias h.2.2, hm.kindFits, hm.aFits, hm.bFits, hm.loFits, hm.hiFits, hm.sizeFits⟩
/-- few numbers in each node that is read -/
def FewRead (bs : List Int) : Prop := ∀ n ∈ (rgN bs).1, n.data.length ≤ 5000 ∧ n.bias.length ≤ 5000
theorem ry_node {B : Base} {m i : Nat} {H : Heap} {S : Asn} {nx : Nat} {K : SV → Heap → Asn → Nat → Prop} {u0 u : RdV} {s : RdS} (hi : (i, Ent.box (cs (rcells u s.2)) 125) ∈ H) (h0 : RdBase u0 S) (hr : SX.Rest u0 u) (hbs : u.bs = s.1)
    (h : ∀ (y : NodeV) u', SX.Rest u0 u' → u'.bs = (readNode s).2.1 → y.pl = (readNode s).1 → y.sane → K (.c y.valA) (setH i (.box (cs (rcells u' (readNode s).2.2)) 125) H) (S.and ((nodeD y false).past B.w0.heap.size)) nx) : callK ⟨Try.prog, B, m, tab⟩ 63 [.lp i 0 0 0] H S nx K :=
  call_rxD (fun p => [p]) (fun ρ b hb => by simp [SV.rfs, SV.rf, hb, add_none]) NodeV.valA (fun n => nodeD n false) NodeV.pl NodeV.sane readNode hi Try.call63 h0 hr hbs (fun w' b' h => node_rd w' b' u s.2 h) h
theorem node_snoc' (l : List NodeV) (n : NodeV) {i m : Nat} {T : TypeId} {H : Heap} (hm : m = l.length) : (i, Ent.rows (nodeRows (l ++ [n])) 9 T) ∈ (i, Ent.rows (List.take m (nodeRows l) ++ [n.cells]) 9 T) :: H := by
  subst hm
  rw [show nodeRows (l ++ [n]) = List.take l.length (nodeRows l) ++ [n.cells] by rw [List.take_of_length_le (by rw [nodeRows_length]; exact Nat.le_refl _)]; simp [nodeRows]]
  exact List.mem_cons_self
theorem read_good {B : Base} {H : Heap} {S : Asn} {nx j m : Nat} {w : World} {T : TypeId} {r : List NodeP × Int × Int} {l : List NodeV} {out : Int} (hb : ∀ R w', S.holds R w' → (baseA B.w0).holds R w') (hw0 : B.w0 = w) (he : (j, Ent.rows (nodeRows l) 9 T) ∈ H) (hm : m = l.length) (hsn : ∀ n ∈ l, n.sane) (hl : l.length ≤ 1000) (ho : i64 out)
    (hN : ∀ R w', S.holds R w' → ((nodesR l).past B.w0.heap.size).holds R w') (hr : r = (l.map NodeV.pl, out, 0)) : finK B (.tup [.agg [.os j m, .c (.int .i64 out)], .c (.int .i64 0)]) H S nx (ReadPost w r) := by
  subst hw0 hr hm
  refine fin_of fun ρ w' hw => ?_
  have hn := new_of_abs hw hb he
  obtain ⟨base, cap, e1, h1⟩ := newRows_data hn
  rw [nodeRows_length] at e1
  refine ⟨⟨base, cap, l, out⟩, rfl, ⟨hsn, hl, ho⟩, ?_, ext_of_abs hw hb, ⟨h1, past_new hw hN⟩⟩
  have : (SV.tup [.agg [.os j l.length, .c (.int .i64 out)], .c (.int .i64 0)]).rf ρ = Value.tuple #[.agg #[(SV.os j l.length).rf ρ, .int .i64 out], .int .i64 0] := rfl
  rw [this, e1]; rfl
theorem sane_graph {l : List NodeV} {base : Option Addr} {cap : Nat} {out : Int} {R : Nat → Prop} {w : World} (hm : ∀ n ∈ l, n.sane) (hl : l.length ≤ 1000) (hr : RowsI w base 9 (nodeRows l)) (h : (nodesR l).holds R w) (ho : i64 out) (hf : ∀ n ∈ l.map NodeV.pl, n.data.length ≤ 5000 ∧ n.bias.length ≤ 5000) : (⟨base, cap, l, out⟩ : GraphV).ok w :=
  ⟨hr, fun n hn => sane_ok (hm n hn) (h n hn), fun n hn => ⟨(hf n.pl (List.mem_map.2 ⟨n, hn, rfl⟩)).1, (hf n.pl (List.mem_map.2 ⟨n, hn, rfl⟩)).2⟩, by simp only; omega, ho⟩
theorem check_graphP {l : List NodeV} {base : Option Addr} {cap : Nat} {out : Int} {p : List NodeP} (h : l.map NodeV.pl = p) : check ⟨base, cap, l, out⟩ = check (graphP p out) :=
  check_pl (by show l.map NodeV.pl = (p.map NodeP.toV).map NodeV.pl; rw [map_pl_toV, h]) rfl
set_option maxRecDepth 20000 in
theorem readGraph_any (w : World) (x : RdV) (hu : RdIn w x) (hfew : FewRead x.bs) : Calls Try.prog 27 #[x.val] w (ReadPost w (readGraph x.bs)) := by
  have h0 := hu.base
  refine calls_of tab tabOk Try.func27 rfl rfl rfl [] (fun _ => ⟨none, 0⟩) [.c x.val] [] (baseA w) 0 rfl rfl (by show 1 ≤ _; decide) (abs_base w) ?_
  (repeat' ((conv => whnf) <;> first | (show drawK _ 2 _ _ _ _ _ _; (refine draw_quiet tabOk mixed (by kernel_rfl) ?_)) | (show Wp _ _ _ _ _ _ _; (refine Wp.go tabOk rfl ?_)) | (show @cmpK _ _ _; (first | refine cmp_yes (by omega) ?_ | refine cmp_no (by omega) ?_ | (refine cmp_both ?_ ?_ <;> intro _))) | (show wrapK _ _ _; (refine wrap_i64 (by omega) (by omega) ?_)) | (show leK _ _ _; (refine le_of (by first | exact Nat.le_refl _ | omega) ?_)) | (show roomK _ _ _; (refine room_of (by first | omega | (dsimp only; omega)) ?_)) | (show ltK _ _ _; (refine lt_of (by omega) ?_)) | (show _ ∧ _; (refine ⟨?_, ?_⟩)) | (show keepK _ _ _ _ _; (refine keep_of (by first | exact List.Sublist.refl _ | exact List.Sublist.cons _ (List.Sublist.refl _) | exact List.Sublist.cons _ (List.Sublist.cons _ (List.Sublist.refl _)) | exact List.Sublist.cons _ (List.Sublist.cons _ (List.Sublist.cons _ (List.Sublist.refl _)))) (by first | exact (fun _ _ h => h) | exact (fun _ _ h => h.1) | exact (fun _ _ h => h.1.1)) ?_)) | (show ownK _ _ _ _ _; (refine own_keep ?_))))
  refine call_newbox (f := 56) Try.call56 125 (fun y : RdV => rcells y (rdStart 6 (x.bs, 0)).2) (fun y => SX.Rest x y ∧ y.bs = (rdStart 6 (x.bs, 0)).1) (fun ρ w' hw => start_any w' x 6 (rd_into h0 hu.room hw)) (fun u1 hx => ?_)
  obtain ⟨hr, hbs⟩ := hx
  have b4 := rd1_bound (s := rdStart 6 (x.bs, 0)) (bytes_rest hr hbs h0.bytes)
  (repeat' ((conv => whnf) <;> first | (show callK _ 57 _ _ _ _ _; (refine ry_one (by repeat (first | exact List.mem_cons_self | apply List.mem_cons_of_mem)) (by first | exact h0 | exact rdBase_and h0 | exact rdBase_and (rdBase_and h0) | exact rdBase_and (rdBase_and (rdBase_and h0))) hr hbs (fun v hr hbs => ?_))) | (show callK _ 60 _ _ _ _ _; (refine ry_end (by repeat (first | exact List.mem_cons_self | apply List.mem_cons_of_mem)) (by first | exact h0 | exact rdBase_and h0 | exact rdBase_and (rdBase_and h0) | exact rdBase_and (rdBase_and (rdBase_and h0))) hr hbs (fun v hr hbs => ?_))) | (show keepK _ _ _ _ _; (refine keep_of (by repeat (first | exact List.Sublist.refl _ | exact List.nil_sublist _ | apply List.Sublist.cons_cons | apply List.Sublist.cons)) (by first | exact (fun _ _ h => h) | exact (fun _ _ h => h.1) | exact (fun _ _ h => h.1.1)) ?_)) | (show drawK _ 2 _ _ _ _ _ _; (refine draw_tree tabOk mixed [] _ (.take 0 (.take 1 (.take 3 (.one 2 (.one 4 (.done)))))) (by kernel_rfl) (by kernel_rfl) (by kernel_rfl) (List.Sublist.cons _ (List.Sublist.cons_cons _ (List.Sublist.cons _ (List.Sublist.cons_cons _ (List.nil_sublist _))))) ?_)) | (show Wp _ _ _ _ _ _ _; (refine Wp.go tabOk rfl ?_)) | (show @cmpK _ _ _; (first | refine cmp_yes (by omega) ?_ | refine cmp_no (by omega) ?_ | (refine cmp_both ?_ ?_ <;> intro _))) | (show wrapK _ _ _; (refine wrap_i64 (by omega) (by omega) ?_)) | (show leK _ _ _; (refine le_of (by first | exact Nat.le_refl _ | omega) ?_)) | (show roomK _ _ _; (refine room_of (by first | omega | (dsimp only; omega)) ?_)) | (show ltK _ _ _; (refine lt_of (by omega) ?_)) | (show _ ∧ _; (refine ⟨?_, ?_⟩)) | (show keepK _ _ _ _ _; (refine keep_of (by first | exact List.Sublist.refl _ | exact List.Sublist.cons _ (List.Sublist.refl _) | exact List.Sublist.cons _ (List.Sublist.cons _ (List.Sublist.refl _)) | exact List.Sublist.cons _ (List.Sublist.cons _ (List.Sublist.cons _ (List.Sublist.refl _)))) (by first | exact (fun _ _ h => h) | exact (fun _ _ h => h.1) | exact (fun _ _ h => h.1.1)) ?_)) | (show ownK _ _ _ _ _; (refine own_keep ?_))))
  refine call_inline tabOk Try.func61 rfl rfl rfl Try.call61 rfl (by show 3 ≤ _; decide) ?_
  
  (repeat' ((conv => whnf) <;> first | (show Wp _ _ _ _ _ _ _; (refine Wp.go tabOk rfl ?_)) | (show @cmpK _ _ _; (first | refine cmp_yes (by omega) ?_ | refine cmp_no (by omega) ?_ | (refine cmp_both ?_ ?_ <;> intro _))) | (show wrapK _ _ _; (refine wrap_i64 (by omega) (by omega) ?_)) | (show leK _ _ _; (refine le_of (by first | exact Nat.le_refl _ | omega) ?_)) | (show roomK _ _ _; (refine room_of (by first | omega | (dsimp only; omega)) ?_)) | (show ltK _ _ _; (refine lt_of (by omega) ?_)) | (show _ ∧ _; (refine ⟨?_, ?_⟩)) | (show keepK _ _ _ _ _; (refine keep_of (by first | exact List.Sublist.refl _ | exact List.Sublist.cons _ (List.Sublist.refl _) | exact List.Sublist.cons _ (List.Sublist.cons _ (List.Sublist.refl _)) | exact List.Sublist.cons _ (List.Sublist.cons _ (List.Sublist.cons _ (List.Sublist.refl _)))) (by first | exact (fun _ _ h => h) | exact (fun _ _ h => h.1) | exact (fun _ _ h => h.1.1)) ?_)) | (show ownK _ _ _ _ _; (refine own_keep ?_))))
  refine Wp.loop (σ := Int × Nat × List NodeV × RdS × RdV) 5 (fun ⟨k, m, _, _, _⟩ => [(0, .lp 1 0 0 0), (1, .c (.int .i64 k)), (2, .fn (.func 62) [] [.lp 3 0 0 0, .lp 2 0 0 0])])
    (fun ⟨_, m, l, s', v⟩ => [(4, .rows (nodeRows l) 9 43), (3, .box [.os 4 m, .c (.int .i64 0)] 24), (2, .box [.lp 1 0 0 0] 93), (1, .box (cs (rcells v s'.2)) 125), (0, .box (cs [.slice none 0 0, .int .i64 0]) 24)]) (fun ⟨_, _, l, _, _⟩ => (baseA w).and ((nodesR l).past w.heap.size))
    (fun ⟨k, m, l, s', v⟩ => Reading readNode (l.map NodeV.pl) k.toNat s' (rgN x.bs) ∧ m = l.length ∧ 0 ≤ k ∧ l.length + k ≤ 255 ∧ (∀ n ∈ l, n.sane) ∧ SX.Rest x v ∧ v.bs = s'.1) (fun s => s.1.toNat) ((rdNum 1 (rdStart 6 (x.bs, 0))).1, 0, [], (rdNum 1 (rdStart 6 (x.bs, 0))).2, _) [(4, none)] (by decide) (fun s => ⟨rfl, rfl⟩)
    ⟨Reading.start _ _ _, rfl, b4.1, by simp; omega, fun x hx => by simp at hx, hr, hbs⟩ ⟨rfl, ⟨rfl, rfl, rfl, trivial⟩, ⟨rfl, (by repeat (first | exact List.mem_cons_self | apply List.mem_cons_of_mem)), (by repeat (first | exact List.mem_cons_self | apply List.mem_cons_of_mem)), (by repeat (first | exact List.mem_cons_self | apply List.mem_cons_of_mem)), (by repeat (first | exact List.mem_cons_self | apply List.mem_cons_of_mem)), trivial⟩, fun _ _ h => ⟨h, fun n hn => by simp at hn⟩⟩ ?_
  rintro ⟨k, m, l, s', v'⟩ ⟨hR, hm, hk0, hl, hf, hr, hbs⟩
  by_cases hgo : 0 < k ∧ s'.2 = 0
  · have hz := hgo.2
    (repeat' ((conv => whnf) <;> first | (show Wp _ _ _ _ _ _ _; (refine Wp.go tabOk rfl ?_)) | (show @cmpK _ _ _; (first | refine cmp_yes (by omega) ?_ | refine cmp_no (by omega) ?_ | (refine cmp_both ?_ ?_ <;> intro _))) | (show wrapK _ _ _; (refine wrap_i64 (by omega) (by omega) ?_)) | (show leK _ _ _; (refine le_of (by first | exact Nat.le_refl _ | omega) ?_)) | (show roomK _ _ _; (refine room_of (by first | omega | (dsimp only; omega)) ?_)) | (show ltK _ _ _; (refine lt_of (by omega) ?_)) | (show _ ∧ _; (refine ⟨?_, ?_⟩)) | (show keepK _ _ _ _ _; (refine keep_of (by first | exact List.Sublist.refl _ | exact List.Sublist.cons _ (List.Sublist.refl _) | exact List.Sublist.cons _ (List.Sublist.cons _ (List.Sublist.refl _)) | exact List.Sublist.cons _ (List.Sublist.cons _ (List.Sublist.cons _ (List.Sublist.refl _)))) (by first | exact (fun _ _ h => h) | exact (fun _ _ h => h.1) | exact (fun _ _ h => h.1.1)) ?_)) | (show ownK _ _ _ _ _; (refine own_keep ?_))))
    refine call_inline tabOk Try.func62 rfl rfl rfl Try.call62 rfl (by show 2 ≤ _; decide) ?_
    
    (repeat' ((conv => whnf) <;> first | (show drawK _ 0 _ _ _ _ _ _; (refine draw_tree tabOk mixed [7] _ (.take 0 (.take 1 (.take 2 (.one 3 (.one 4 (.one 5 (.take 6 (.one 7 (.done))))))))) (by kernel_rfl) (by kernel_rfl) (by kernel_rfl) (List.Sublist.cons _ (List.Sublist.cons_cons _ (List.Sublist.cons_cons _ (List.nil_sublist _)))) ?_)) | (show keepK _ _ _ _ _; (refine keep_of (by repeat (first | exact List.Sublist.refl _ | exact List.nil_sublist _ | apply List.Sublist.cons_cons | apply List.Sublist.cons)) (by first | exact (fun _ _ h => h) | exact (fun _ _ h => h.1) | exact (fun _ _ h => h.1.1)) ?_)) | (show callK _ 63 _ _ _ _ _; (refine ry_node (by repeat (first | exact List.mem_cons_self | apply List.mem_cons_of_mem)) (by first | exact h0 | exact rdBase_and h0 | exact rdBase_and (rdBase_and h0) | exact rdBase_and (rdBase_and (rdBase_and h0))) hr hbs (fun y v hr hbs hy hys => ?_))) | (show leK _ _ _; (refine le_of (by rw [nodeRows_length, hm]; exact Nat.le_refl _) ?_)) | (show roomK _ _ _; (refine room_of (by show (m + 1) * 120 ≤ 140737488355328; omega) ?_)) | (show doneK _ _ _ _ _; (refine done_of ?_)) | (show Wp _ _ _ _ _ _ _; (refine Wp.go tabOk rfl ?_)) | (show @cmpK _ _ _; (first | refine cmp_yes (by omega) ?_ | refine cmp_no (by omega) ?_ | (refine cmp_both ?_ ?_ <;> intro _))) | (show wrapK _ _ _; (refine wrap_i64 (by omega) (by omega) ?_)) | (show leK _ _ _; (refine le_of (by first | exact Nat.le_refl _ | omega) ?_)) | (show roomK _ _ _; (refine room_of (by first | omega | (dsimp only; omega)) ?_)) | (show ltK _ _ _; (refine lt_of (by omega) ?_)) | (show _ ∧ _; (refine ⟨?_, ?_⟩)) | (show keepK _ _ _ _ _; (refine keep_of (by first | exact List.Sublist.refl _ | exact List.Sublist.cons _ (List.Sublist.refl _) | exact List.Sublist.cons _ (List.Sublist.cons _ (List.Sublist.refl _)) | exact List.Sublist.cons _ (List.Sublist.cons _ (List.Sublist.cons _ (List.Sublist.refl _)))) (by first | exact (fun _ _ h => h) | exact (fun _ _ h => h.1) | exact (fun _ _ h => h.1.1)) ?_)) | (show ownK _ _ _ _ _; (refine own_keep ?_))))
    all_goals (conv => whnf)
    all_goals exact ⟨(k - 1, m + 1, l ++ [y], (readNode s').2, _), [(4, some 6)], ⟨by rw [List.map_append, List.map_cons, List.map_nil, hy]; exact hR.next' hgo.1 hz, by rw [hm]; simp, by omega, by rw [List.length_append, List.length_singleton]; omega, (fun n hn => by
      rcases List.mem_append.1 hn with h | h
      · exact hf n h
      · simp at h; subst h; exact hys), by assumption, by assumption⟩, by simp only; omega, rfl, ⟨rfl, rfl, rfl, trivial⟩, ⟨node_snoc' _ _ hm, (by repeat (first | exact List.mem_cons_self | apply List.mem_cons_of_mem)), (by repeat (first | exact List.mem_cons_self | apply List.mem_cons_of_mem)), (by repeat (first | exact List.mem_cons_self | apply List.mem_cons_of_mem)), (by repeat (first | exact List.mem_cons_self | apply List.mem_cons_of_mem)), trivial⟩, fun _ _ h => ⟨h.1.1, nodesR_snoc h.1.2 h.2⟩⟩
  · have hst := hR.stop (by omega)
    have hp : l.map NodeV.pl = (rgN x.bs).1 := by rw [← hst]
    obtain rfl : s' = (rgN x.bs).2 := by rw [← hst]
    have c3 := rd1_bound (s := (rgN x.bs).2) (bytes_rest hr hbs h0.bytes)
    have hfew' : ∀ n ∈ l.map NodeV.pl, n.data.length ≤ 5000 ∧ n.bias.length ≤ 5000 := fun n hn => hfew n (hp ▸ hn)
    by_cases hz : (rgZ x.bs).1 ≠ 0
    · have hq : readGraph x.bs = ([], 0, (rgZ x.bs).1) := if_pos hz
      (repeat' ((conv => whnf) <;> first | (show doneK _ _ _ _ _; (refine done_of ?_)) | (show callK _ 57 _ _ _ _ _; (refine ry_one (by repeat (first | exact List.mem_cons_self | apply List.mem_cons_of_mem)) (by first | exact h0 | exact rdBase_and h0 | exact rdBase_and (rdBase_and h0) | exact rdBase_and (rdBase_and (rdBase_and h0))) hr hbs (fun v hr hbs => ?_))) | (show callK _ 60 _ _ _ _ _; (refine ry_end (by repeat (first | exact List.mem_cons_self | apply List.mem_cons_of_mem)) (by first | exact h0 | exact rdBase_and h0 | exact rdBase_and (rdBase_and h0) | exact rdBase_and (rdBase_and (rdBase_and h0))) hr hbs (fun v hr hbs => ?_))) | (show keepK _ _ _ _ _; (refine keep_of (by repeat (first | exact List.Sublist.refl _ | exact List.nil_sublist _ | apply List.Sublist.cons_cons | apply List.Sublist.cons)) (by first | exact (fun _ _ h => h) | exact (fun _ _ h => h.1) | exact (fun _ _ h => h.1.1)) ?_)) | (show @cmpK _ _ _; (refine cmp_yes hz ?_)) | (show drawK _ 0 _ _ _ _ _ _; (refine draw_tree tabOk mixed [7] _ (.take 0 (.take 1 (.take 2 (.one 3 (.one 4 (.one 5 (.take 6 (.one 7 (.done))))))))) (by kernel_rfl) (by kernel_rfl) (by kernel_rfl) (List.Sublist.refl _) ?_)) | (show Wp _ _ _ _ _ _ _; (refine Wp.go tabOk rfl ?_)) | (show @cmpK _ _ _; (first | refine cmp_yes (by omega) ?_ | refine cmp_no (by omega) ?_ | (refine cmp_both ?_ ?_ <;> intro _))) | (show wrapK _ _ _; (refine wrap_i64 (by omega) (by omega) ?_)) | (show leK _ _ _; (refine le_of (by first | exact Nat.le_refl _ | omega) ?_)) | (show roomK _ _ _; (refine room_of (by first | omega | (dsimp only; omega)) ?_)) | (show ltK _ _ _; (refine lt_of (by omega) ?_)) | (show _ ∧ _; (refine ⟨?_, ?_⟩)) | (show keepK _ _ _ _ _; (refine keep_of (by first | exact List.Sublist.refl _ | exact List.Sublist.cons _ (List.Sublist.refl _) | exact List.Sublist.cons _ (List.Sublist.cons _ (List.Sublist.refl _)) | exact List.Sublist.cons _ (List.Sublist.cons _ (List.Sublist.cons _ (List.Sublist.refl _)))) (by first | exact (fun _ _ h => h) | exact (fun _ _ h => h.1) | exact (fun _ _ h => h.1.1)) ?_)) | (show ownK _ _ _ _ _; (refine own_keep ?_))))
      all_goals (conv => whnf)
      all_goals exact read_bad (fun _ _ h => h.1) rfl hq
    · (repeat' ((conv => whnf) <;> first | (show doneK _ _ _ _ _; (refine done_of ?_)) | (show callK _ 57 _ _ _ _ _; (refine ry_one (by repeat (first | exact List.mem_cons_self | apply List.mem_cons_of_mem)) (by first | exact h0 | exact rdBase_and h0 | exact rdBase_and (rdBase_and h0) | exact rdBase_and (rdBase_and (rdBase_and h0))) hr hbs (fun v hr hbs => ?_))) | (show callK _ 60 _ _ _ _ _; (refine ry_end (by repeat (first | exact List.mem_cons_self | apply List.mem_cons_of_mem)) (by first | exact h0 | exact rdBase_and h0 | exact rdBase_and (rdBase_and h0) | exact rdBase_and (rdBase_and (rdBase_and h0))) hr hbs (fun v hr hbs => ?_))) | (show keepK _ _ _ _ _; (refine keep_of (by repeat (first | exact List.Sublist.refl _ | exact List.nil_sublist _ | apply List.Sublist.cons_cons | apply List.Sublist.cons)) (by first | exact (fun _ _ h => h) | exact (fun _ _ h => h.1) | exact (fun _ _ h => h.1.1)) ?_)) | (show @cmpK _ _ _; (refine cmp_no hz ?_)) | (show drawK _ 0 _ _ _ _ _ _; (refine draw_tree tabOk mixed [7] _ (.take 0 (.take 1 (.take 2 (.one 3 (.one 4 (.one 5 (.take 6 (.one 7 (.done))))))))) (by kernel_rfl) (by kernel_rfl) (by kernel_rfl) (List.Sublist.refl _) ?_)) | (show Wp _ _ _ _ _ _ _; (refine Wp.go tabOk rfl ?_)) | (show @cmpK _ _ _; (first | refine cmp_yes (by omega) ?_ | refine cmp_no (by omega) ?_ | (refine cmp_both ?_ ?_ <;> intro _))) | (show wrapK _ _ _; (refine wrap_i64 (by omega) (by omega) ?_)) | (show leK _ _ _; (refine le_of (by first | exact Nat.le_refl _ | omega) ?_)) | (show roomK _ _ _; (refine room_of (by first | omega | (dsimp only; omega)) ?_)) | (show ltK _ _ _; (refine lt_of (by omega) ?_)) | (show _ ∧ _; (refine ⟨?_, ?_⟩)) | (show keepK _ _ _ _ _; (refine keep_of (by first | exact List.Sublist.refl _ | exact List.Sublist.cons _ (List.Sublist.refl _) | exact List.Sublist.cons _ (List.Sublist.cons _ (List.Sublist.refl _)) | exact List.Sublist.cons _ (List.Sublist.cons _ (List.Sublist.cons _ (List.Sublist.refl _)))) (by first | exact (fun _ _ h => h) | exact (fun _ _ h => h.1) | exact (fun _ _ h => h.1.1)) ?_)) | (show ownK _ _ _ _ _; (refine own_keep ?_))))
      all_goals
        refine call_check (f := 17) (check (graphP (rgN x.bs).1 (rgO x.bs).1)) Try.call17 (fun ρ w' hw => ?_) (fun hne => ?_) (fun he sv _ _ => ?_)
        · have hg : (⟨(ρ 4).base, (ρ 4).cap, l, (rgO x.bs).1⟩ : GraphV).ok w' := holds_of_abs hw fun R h => sane_graph hf (by omega) (rows_of_abs hw (by repeat (first | exact List.mem_cons_self | apply List.mem_cons_of_mem))) ((nodesR l).mono h.2 (fun b hb => hb.1)) (num_i64 c3) hfew'
          have := check_any w' _ hg
          rw [check_graphP hp] at this
          rw [hm]
          exact this
        · have hq : readGraph x.bs = ([], 0, (check (graphP (rgN x.bs).1 (rgO x.bs).1)).1) := by unfold readGraph; rw [if_neg hz, if_pos hne]
          
          (repeat' ((conv => whnf) <;> first | (show @cmpK _ _ _; (refine cmp_yes hne ?_)) | (show drawK _ 2 _ _ _ _ _ _; (refine draw_quiet tabOk mixed (by kernel_rfl) ?_)) | (show Wp _ _ _ _ _ _ _; (refine Wp.go tabOk rfl ?_)) | (show @cmpK _ _ _; (first | refine cmp_yes (by omega) ?_ | refine cmp_no (by omega) ?_ | (refine cmp_both ?_ ?_ <;> intro _))) | (show wrapK _ _ _; (refine wrap_i64 (by omega) (by omega) ?_)) | (show leK _ _ _; (refine le_of (by first | exact Nat.le_refl _ | omega) ?_)) | (show roomK _ _ _; (refine room_of (by first | omega | (dsimp only; omega)) ?_)) | (show ltK _ _ _; (refine lt_of (by omega) ?_)) | (show _ ∧ _; (refine ⟨?_, ?_⟩)) | (show keepK _ _ _ _ _; (refine keep_of (by first | exact List.Sublist.refl _ | exact List.Sublist.cons _ (List.Sublist.refl _) | exact List.Sublist.cons _ (List.Sublist.cons _ (List.Sublist.refl _)) | exact List.Sublist.cons _ (List.Sublist.cons _ (List.Sublist.cons _ (List.Sublist.refl _)))) (by first | exact (fun _ _ h => h) | exact (fun _ _ h => h.1) | exact (fun _ _ h => h.1.1)) ?_)) | (show ownK _ _ _ _ _; (refine own_keep ?_))))
          conv => whnf
          exact read_bad (fun _ _ h => h.1) rfl hq
        · have hq : readGraph x.bs = ((rgN x.bs).1, (rgO x.bs).1, 0) := by unfold readGraph; rw [if_neg hz, if_neg (fun h => h he)]
          
          (repeat' ((conv => whnf) <;> first | (show drawK _ 2 _ _ _ _ _ _; (refine draw_quiet tabOk mixed (by kernel_rfl) ?_)) | (show Wp _ _ _ _ _ _ _; (refine Wp.go tabOk rfl ?_)) | (show @cmpK _ _ _; (first | refine cmp_yes (by omega) ?_ | refine cmp_no (by omega) ?_ | (refine cmp_both ?_ ?_ <;> intro _))) | (show wrapK _ _ _; (refine wrap_i64 (by omega) (by omega) ?_)) | (show leK _ _ _; (refine le_of (by first | exact Nat.le_refl _ | omega) ?_)) | (show roomK _ _ _; (refine room_of (by first | omega | (dsimp only; omega)) ?_)) | (show ltK _ _ _; (refine lt_of (by omega) ?_)) | (show _ ∧ _; (refine ⟨?_, ?_⟩)) | (show keepK _ _ _ _ _; (refine keep_of (by first | exact List.Sublist.refl _ | exact List.Sublist.cons _ (List.Sublist.refl _) | exact List.Sublist.cons _ (List.Sublist.cons _ (List.Sublist.refl _)) | exact List.Sublist.cons _ (List.Sublist.cons _ (List.Sublist.cons _ (List.Sublist.refl _)))) (by first | exact (fun _ _ h => h) | exact (fun _ _ h => h.1) | exact (fun _ _ h => h.1.1)) ?_)) | (show ownK _ _ _ _ _; (refine own_keep ?_))))
          conv => whnf
          exact read_good (fun _ _ h => h.1.1) rfl (by repeat (first | exact List.mem_cons_self | apply List.mem_cons_of_mem)) hm hf (by omega) (num_i64 c3) (fun _ _ h => h.1.2) (by rw [hp]; exact hq)
end Go.Proofs.Ytajbngkcgbehlaa
/- SO -/
namespace Go.Proofs.Ytajbngkcgbehlaa
open Go.SX Go.RowKit
theorem cmp_as {p : Prop} [Decidable p] {K : Bool → Prop} (h : K (decide p)) : cmpK p K := by
  by_cases hp : p
  · rw [decide_eq_true hp] at h; exact cmp_yes hp h
  · rw [decide_eq_false hp] at h; exact cmp_no hp h
set_option maxRecDepth 20000 in
set_option maxHeartbeats 2000000 in
theorem refReadGraph_any (w : World) (x : RdV) (hu : RdIn w x) (hfew : FewRead x.bs) : Calls Try.prog 28 #[x.val] w (ReadPost w (readGraph x.bs)) := by
  have h0 := hu.base
  have hr := SX.Rest.refl hu.room
  have hbs : x.bs = ((x.bs, (0 : Int)) : List Int × Int).1 := rfl
  have hby := h0.bytes
  have hS : (rdUnit (rdFail (decide ((rdNum 1 (x.bs, 0)).1 ≠ 6)) 3) (rdNum 1 (x.bs, 0)).2).2 = rdStart 6 (x.bs, 0) := rfl
  have b4 := rd1_bound (s := rdStart 6 (x.bs, 0)) (by rw [← hS]; exact rdNum_bytes (s := (x.bs, 0)) hby)
  refine calls_of tab tabOk Try.func28 rfl rfl rfl [] (fun _ => ⟨none, 0⟩) [.c x.val] [] (baseA w) 0 rfl rfl (by show 1 ≤ _; decide) (abs_base w) ?_
  (repeat' ((conv => whnf) <;> first | (show drawK _ 2 _ _ _ _ _ _; (refine draw_tree tabOk mixed [] _ (.take 0 (.take 1 (.take 2 (.one 3 (.take 4 (.one 5 (.done))))))) (by kernel_rfl) (by kernel_rfl) (by kernel_rfl) (List.Sublist.cons_cons _ (List.Sublist.cons _ (List.Sublist.cons_cons _ (List.nil_sublist _)))) ?_)) | (show keepK _ _ _ _ _; (refine keep_of (by repeat (first | exact List.Sublist.refl _ | exact List.nil_sublist _ | apply List.Sublist.cons_cons | apply List.Sublist.cons)) (by first | exact (fun _ _ h => h) | exact (fun _ _ h => h.1) | exact (fun _ _ h => h.1.1)) ?_)) | (show @cmpK _ _ _; (refine cmp_as ?_)) | (show callK _ 65 _ _ _ _ _; (refine ry_rn (by decide) (by repeat (first | exact List.mem_cons_self | apply List.mem_cons_of_mem)) h0 hr hbs (fun u hr hbs => ?_))) | (show callK _ 64 _ _ _ _ _; (refine ry_rfail (by repeat (first | exact List.mem_cons_self | apply List.mem_cons_of_mem)) h0 hr hbs (fun u hr hbs => ?_))) | (show drawK _ 14 _ _ _ _ _ _; (refine draw_tree tabOk mixed [7] _ (.take 0 (.take 1 (.take 2 (.one 3 (.one 4 (.one 5 (.take 6 (.one 7 (.done))))))))) (by kernel_rfl) (by kernel_rfl) (by kernel_rfl) (List.Sublist.refl _) ?_)) | (show Wp _ _ _ _ _ _ _; (refine Wp.go tabOk rfl ?_)) | (show @cmpK _ _ _; (first | refine cmp_yes (by omega) ?_ | refine cmp_no (by omega) ?_ | (refine cmp_both ?_ ?_ <;> intro _))) | (show wrapK _ _ _; (refine wrap_i64 (by omega) (by omega) ?_)) | (show leK _ _ _; (refine le_of (by first | exact Nat.le_refl _ | omega) ?_)) | (show roomK _ _ _; (refine room_of (by first | omega | (dsimp only; omega)) ?_)) | (show ltK _ _ _; (refine lt_of (by omega) ?_)) | (show _ ∧ _; (refine ⟨?_, ?_⟩)) | (show keepK _ _ _ _ _; (refine keep_of (by first | exact List.Sublist.refl _ | exact List.Sublist.cons _ (List.Sublist.refl _) | exact List.Sublist.cons _ (List.Sublist.cons _ (List.Sublist.refl _)) | exact List.Sublist.cons _ (List.Sublist.cons _ (List.Sublist.cons _ (List.Sublist.refl _)))) (by first | exact (fun _ _ h => h) | exact (fun _ _ h => h.1) | exact (fun _ _ h => h.1.1)) ?_)) | (show ownK _ _ _ _ _; (refine own_keep ?_))))
  refine Wp.loop (σ := Int × Nat × List NodeV × RdS × RdV) 5 (fun ⟨k, m, _, _, _⟩ => [(4, .lp 2 0 0 0), (5, .lp 3 0 0 0), (6, .c (.int .i64 k)), (2, .lp 0 0 0 0)])
    (fun ⟨_, m, l, s', v⟩ => [(4, .rows (nodeRows l) 9 43), (3, .box [.os 4 m, .c (.int .i64 0)] 24), (2, .box [.lp 1 0 0 0] 102), (1, .box (cs (rcells v s'.2)) 100), (0, .box (cs [.slice none 0 0, .int .i64 0]) 24)]) (fun ⟨_, _, l, _, _⟩ => (baseA w).and ((nodesR l).past w.heap.size))
    (fun ⟨k, m, l, s', v⟩ => Reading readNode (l.map NodeV.pl) k.toNat s' (rgN x.bs) ∧ m = l.length ∧ 0 ≤ k ∧ l.length + k ≤ 255 ∧ (∀ n ∈ l, n.sane) ∧ SX.Rest x v ∧ v.bs = s'.1) (fun s => s.1.toNat) ((rdNum 1 (rdStart 6 (x.bs, 0))).1, 0, [], (rdNum 1 (rdStart 6 (x.bs, 0))).2, _) [(4, none)] (by decide) (fun s => ⟨rfl, rfl⟩)
    ⟨Reading.start _ _ _, rfl, b4.1, by simp; omega, fun x hx => by simp at hx, hr, hbs⟩ ⟨rfl, ⟨rfl, rfl, rfl, rfl, trivial⟩, ⟨rfl, (by repeat (first | exact List.mem_cons_self | apply List.mem_cons_of_mem)), (by repeat (first | exact List.mem_cons_self | apply List.mem_cons_of_mem)), (by repeat (first | exact List.mem_cons_self | apply List.mem_cons_of_mem)), (by repeat (first | exact List.mem_cons_self | apply List.mem_cons_of_mem)), trivial⟩, fun _ _ h => ⟨h, fun n hn => by simp at hn⟩⟩ ?_
  rintro ⟨k, m, l, s', v'⟩ ⟨hR, hm, hk0, hl, hf, hr, hbs⟩
  by_cases hgo : 0 < k ∧ s'.2 = 0
  · have hz := hgo.2
    have b0 := bytes_rest hr hbs hby
    have b1 := rd1_bound (s := s') b0
    have b2 := rd1_bound (s := (ndA s').2) (rdNum_bytes b0)
    have b3 := rd1_bound (s := (ndB s').2) (rdNum_bytes (rdNum_bytes b0))
    have b4 := rd1_bound (s := (ndC s').2) (rdNum_bytes (rdNum_bytes (rdNum_bytes b0)))
    (repeat' ((conv => whnf) <;> first | (show callK _ 65 _ _ _ _ _; (refine ry_rn (by decide) (by repeat (first | exact List.mem_cons_self | apply List.mem_cons_of_mem)) (by first | exact h0 | exact rdBase_and h0 | exact rdBase_and (rdBase_and h0) | exact rdBase_and (rdBase_and (rdBase_and h0)) | exact rdBase_and (rdBase_and (rdBase_and (rdBase_and h0)))) hr hbs (fun v hr hbs => ?_))) | (show callK _ 66 _ _ _ _ _; (refine ry_rsigned (by repeat (first | exact List.mem_cons_self | apply List.mem_cons_of_mem)) (by first | exact h0 | exact rdBase_and h0 | exact rdBase_and (rdBase_and h0) | exact rdBase_and (rdBase_and (rdBase_and h0)) | exact rdBase_and (rdBase_and (rdBase_and (rdBase_and h0)))) hr hbs (fun v hr hbs => ?_))) | (show callK _ 67 _ _ _ _ _; (refine ry_rrow (by repeat (first | exact List.mem_cons_self | apply List.mem_cons_of_mem)) (by first | exact h0 | exact rdBase_and h0 | exact rdBase_and (rdBase_and h0) | exact rdBase_and (rdBase_and (rdBase_and h0)) | exact rdBase_and (rdBase_and (rdBase_and (rdBase_and h0)))) hr hbs (fun y v hr hbs hy hys => ?_))) | (show callK _ 68 _ _ _ _ _; (refine ry_rend (by repeat (first | exact List.mem_cons_self | apply List.mem_cons_of_mem)) (by first | exact h0 | exact rdBase_and h0 | exact rdBase_and (rdBase_and h0) | exact rdBase_and (rdBase_and (rdBase_and h0)) | exact rdBase_and (rdBase_and (rdBase_and (rdBase_and h0)))) hr hbs (fun v hr hbs => ?_))) | (show keepK _ _ _ _ _; (refine keep_of (by repeat (first | exact List.Sublist.refl _ | exact List.nil_sublist _ | apply List.Sublist.cons_cons | apply List.Sublist.cons)) (by first | exact (fun _ _ h => h) | exact (fun _ _ h => h.1) | exact (fun _ _ h => h.1.1)) ?_)) | (show drawK _ 2 _ _ _ _ _ _; (refine draw_quiet tabOk mixed (by kernel_rfl) ?_)) | (show drawK _ 14 _ _ _ _ _ _; (refine draw_tree tabOk mixed [7] _ (.take 0 (.take 1 (.take 2 (.one 3 (.one 4 (.one 5 (.take 6 (.one 7 (.done))))))))) (by kernel_rfl) (by kernel_rfl) (by kernel_rfl) (List.Sublist.refl _) ?_)) | (show Wp _ _ _ _ _ _ _; (refine Wp.go tabOk rfl ?_)) | (show @cmpK _ _ _; (first | refine cmp_yes (by omega) ?_ | refine cmp_no (by omega) ?_ | (refine cmp_both ?_ ?_ <;> intro _))) | (show wrapK _ _ _; (refine wrap_i64 (by omega) (by omega) ?_)) | (show leK _ _ _; (refine le_of (by first | exact Nat.le_refl _ | omega) ?_)) | (show roomK _ _ _; (refine room_of (by first | omega | (dsimp only; omega)) ?_)) | (show ltK _ _ _; (refine lt_of (by omega) ?_)) | (show _ ∧ _; (refine ⟨?_, ?_⟩)) | (show keepK _ _ _ _ _; (refine keep_of (by first | exact List.Sublist.refl _ | exact List.Sublist.cons _ (List.Sublist.refl _) | exact List.Sublist.cons _ (List.Sublist.cons _ (List.Sublist.refl _)) | exact List.Sublist.cons _ (List.Sublist.cons _ (List.Sublist.cons _ (List.Sublist.refl _)))) (by first | exact (fun _ _ h => h) | exact (fun _ _ h => h.1) | exact (fun _ _ h => h.1.1)) ?_)) | (show ownK _ _ _ _ _; (refine own_keep ?_))))
    refine Wp.loop (σ := Int × Nat × List Int × RdS × RdV) 7 (fun ⟨q, _, _, _, _⟩ => [(4, .lp 2 0 0 0), (5, .lp 3 0 0 0), (6, .c (.int .i64 k)), (2, .lp 0 0 0 0), (7, .lp 5 0 0 0), (8, .c (.int .i64 q))])
      (fun ⟨_, d, acc, s2, v⟩ => [(6, .rows (ints acc) 1 3), (5, .box [.c (.int .i64 (ndA s').1), .c (.int .i64 (ndB s').1), .c (.int .i64 (ndC s').1), .os 6 d, .c (.int .i64 0), .c (.int .i64 0), .c (.int .i64 0), .c (.slice none 0 0), .c (.slice none 0 0)] 43), (4, .rows (nodeRows l) 9 43), (3, .box [.os 4 m, .c (.int .i64 0)] 24), (2, .box [.lp 1 0 0 0] 102), (1, .box (cs (rcells v s2.2)) 100), (0, .box (cs [.slice none 0 0, .int .i64 0]) 24)]) (fun _ => (baseA w).and ((nodesR l).past w.heap.size))
      (fun ⟨q, d, acc, s2, v⟩ => Reading (rdNum 1) acc q.toNat s2 (ndS s') ∧ d = acc.length ∧ 0 ≤ q ∧ acc.length + q ≤ 255 ∧ (∀ x ∈ acc, i64 x) ∧ SX.Rest x v ∧ v.bs = s2.1) (fun s => s.1.toNat) ((rdNum 1 (ndC s').2).1, 0, [], (rdNum 1 (ndC s').2).2, _) [(6, none)] (by decide) (fun s => ⟨rfl, rfl⟩)
      ⟨Reading.start _ _ _, rfl, b4.1, by simp; omega, fun x hx => by simp at hx, hr, hbs⟩ ⟨rfl, ⟨rfl, rfl, rfl, rfl, rfl, rfl, trivial⟩, ⟨rfl, (by repeat (first | exact List.mem_cons_self | apply List.mem_cons_of_mem)), (by repeat (first | exact List.mem_cons_self | apply List.mem_cons_of_mem)), (by repeat (first | exact List.mem_cons_self | apply List.mem_cons_of_mem)), (by repeat (first | exact List.mem_cons_self | apply List.mem_cons_of_mem)), (by repeat (first | exact List.mem_cons_self | apply List.mem_cons_of_mem)), (by repeat (first | exact List.mem_cons_self | apply List.mem_cons_of_mem)), trivial⟩, fun _ _ h => h⟩ ?_
    rintro ⟨q, d, acc, s2, v2⟩ ⟨hR2, hd, hq0, hlq, hf2, hr, hbs⟩
    by_cases hgo2 : 0 < q ∧ s2.2 = 0
    · have hz2 := hgo2.2
      have hx := num_i64 (rd1_bound (s := s2) (bytes_rest hr hbs hby))
      (repeat' ((conv => whnf) <;> first | (show drawK _ 14 _ _ _ _ _ _; (refine draw_tree tabOk mixed [7] _ (.take 0 (.take 1 (.take 2 (.one 3 (.one 4 (.one 5 (.take 6 (.one 7 (.done))))))))) (by kernel_rfl) (by kernel_rfl) (by kernel_rfl) (List.Sublist.cons _ (List.Sublist.cons_cons _ (List.Sublist.cons_cons _ (List.Sublist.cons_cons _ (List.Sublist.cons_cons _ (List.nil_sublist _)))))) ?_)) | (show callK _ 65 _ _ _ _ _; (refine ry_rn (by decide) (by repeat (first | exact List.mem_cons_self | apply List.mem_cons_of_mem)) (by first | exact h0 | exact rdBase_and h0 | exact rdBase_and (rdBase_and h0) | exact rdBase_and (rdBase_and (rdBase_and h0)) | exact rdBase_and (rdBase_and (rdBase_and (rdBase_and h0)))) hr hbs (fun v hr hbs => ?_))) | (show callK _ 66 _ _ _ _ _; (refine ry_rsigned (by repeat (first | exact List.mem_cons_self | apply List.mem_cons_of_mem)) (by first | exact h0 | exact rdBase_and h0 | exact rdBase_and (rdBase_and h0) | exact rdBase_and (rdBase_and (rdBase_and h0)) | exact rdBase_and (rdBase_and (rdBase_and (rdBase_and h0)))) hr hbs (fun v hr hbs => ?_))) | (show callK _ 67 _ _ _ _ _; (refine ry_rrow (by repeat (first | exact List.mem_cons_self | apply List.mem_cons_of_mem)) (by first | exact h0 | exact rdBase_and h0 | exact rdBase_and (rdBase_and h0) | exact rdBase_and (rdBase_and (rdBase_and h0)) | exact rdBase_and (rdBase_and (rdBase_and (rdBase_and h0)))) hr hbs (fun y v hr hbs hy hys => ?_))) | (show callK _ 68 _ _ _ _ _; (refine ry_rend (by repeat (first | exact List.mem_cons_self | apply List.mem_cons_of_mem)) (by first | exact h0 | exact rdBase_and h0 | exact rdBase_and (rdBase_and h0) | exact rdBase_and (rdBase_and (rdBase_and h0)) | exact rdBase_and (rdBase_and (rdBase_and (rdBase_and h0)))) hr hbs (fun v hr hbs => ?_))) | (show keepK _ _ _ _ _; (refine keep_of (by repeat (first | exact List.Sublist.refl _ | exact List.nil_sublist _ | apply List.Sublist.cons_cons | apply List.Sublist.cons)) (by first | exact (fun _ _ h => h) | exact (fun _ _ h => h.1) | exact (fun _ _ h => h.1.1)) ?_)) | (show leK _ _ _; (refine le_of (by rw [ints_length, hd]; exact Nat.le_refl _) ?_)) | (show roomK _ _ _; (refine room_of (by show (d + 1) * 8 ≤ 140737488355328; omega) ?_)) | (show drawK _ 2 _ _ _ _ _ _; (refine draw_quiet tabOk mixed (by kernel_rfl) ?_)) | (show Wp _ _ _ _ _ _ _; (refine Wp.go tabOk rfl ?_)) | (show @cmpK _ _ _; (first | refine cmp_yes (by omega) ?_ | refine cmp_no (by omega) ?_ | (refine cmp_both ?_ ?_ <;> intro _))) | (show wrapK _ _ _; (refine wrap_i64 (by omega) (by omega) ?_)) | (show leK _ _ _; (refine le_of (by first | exact Nat.le_refl _ | omega) ?_)) | (show roomK _ _ _; (refine room_of (by first | omega | (dsimp only; omega)) ?_)) | (show ltK _ _ _; (refine lt_of (by omega) ?_)) | (show _ ∧ _; (refine ⟨?_, ?_⟩)) | (show keepK _ _ _ _ _; (refine keep_of (by first | exact List.Sublist.refl _ | exact List.Sublist.cons _ (List.Sublist.refl _) | exact List.Sublist.cons _ (List.Sublist.cons _ (List.Sublist.refl _)) | exact List.Sublist.cons _ (List.Sublist.cons _ (List.Sublist.cons _ (List.Sublist.refl _)))) (by first | exact (fun _ _ h => h) | exact (fun _ _ h => h.1) | exact (fun _ _ h => h.1.1)) ?_)) | (show ownK _ _ _ _ _; (refine own_keep ?_))))
      all_goals (conv => whnf)
      all_goals exact ⟨(q - 1, d + 1, acc ++ [(rdNum 1 s2).1], (rdNum 1 s2).2, _), [(6, some 8)], ⟨hR2.next' hgo2.1 hz2, by rw [hd]; simp, by omega, by rw [List.length_append, List.length_singleton]; omega, fits_snoc hf2 hx, by assumption, by assumption⟩, by simp only; omega, rfl, ⟨rfl, rfl, rfl, rfl, rfl, rfl, trivial⟩, ⟨ints_snoc' _ _ hd, (by repeat (first | exact List.mem_cons_self | apply List.mem_cons_of_mem)), (by repeat (first | exact List.mem_cons_self | apply List.mem_cons_of_mem)), (by repeat (first | exact List.mem_cons_self | apply List.mem_cons_of_mem)), (by repeat (first | exact List.mem_cons_self | apply List.mem_cons_of_mem)), (by repeat (first | exact List.mem_cons_self | apply List.mem_cons_of_mem)), (by repeat (first | exact List.mem_cons_self | apply List.mem_cons_of_mem)), trivial⟩, fun _ _ h => h⟩
    · have hst := hR2.stop (by omega)
      obtain ⟨rfl, rfl⟩ : acc = (ndS s').1 ∧ s2 = (ndS s').2 := by rw [← hst]; exact ⟨rfl, rfl⟩
      have c0 := bytes_rest hr hbs hby
      have c1 := rdNum_bound (n := 4) (s := (ndS s').2) (by decide) c0
      have c2 := rdNum_bound (n := 4) (s := (ndL s').2) (by decide) (rdNum_bytes c0)
      have c3 := rd1_bound (s := (ndH s').2) (rdNum_bytes (rdNum_bytes c0))
      refine Wp.go tabOk rfl ?_
      (repeat' ((conv => whnf) <;> first | (show drawK _ 2 _ _ _ _ _ _; (refine draw_quiet tabOk mixed (by kernel_rfl) ?_)) | (show drawK _ 14 _ _ _ _ _ _; (refine draw_tree tabOk mixed [7] _ (.take 0 (.take 1 (.take 2 (.one 3 (.one 4 (.one 5 (.take 6 (.one 7 (.done))))))))) (by kernel_rfl) (by kernel_rfl) (by kernel_rfl) (List.Sublist.refl _) ?_)) | (show @cmpK _ _ _; (first | refine cmp_yes (by omega) ?_ | refine cmp_no (by omega) ?_ | (refine cmp_both ?_ ?_ <;> intro _))) | (show wrapK _ _ _; (refine wrap_i64 (by omega) (by omega) ?_)) | (show leK _ _ _; (refine le_of (by first | exact Nat.le_refl _ | omega) ?_)) | (show roomK _ _ _; (refine room_of (by first | omega | (dsimp only; omega)) ?_)) | (show ltK _ _ _; (refine lt_of (by omega) ?_)) | (show _ ∧ _; (refine ⟨?_, ?_⟩)) | (show keepK _ _ _ _ _; (refine keep_of (by first | exact List.Sublist.refl _ | exact List.Sublist.cons _ (List.Sublist.refl _) | exact List.Sublist.cons _ (List.Sublist.cons _ (List.Sublist.refl _)) | exact List.Sublist.cons _ (List.Sublist.cons _ (List.Sublist.cons _ (List.Sublist.refl _)))) (by first | exact (fun _ _ h => h) | exact (fun _ _ h => h.1) | exact (fun _ _ h => h.1.1)) ?_)) | (show ownK _ _ _ _ _; (refine own_keep ?_))))
      all_goals (conv => whnf)
      all_goals
        refine Wp.freezeN 6 w.heap.size (k := 1) (xs := ints (ndS s').1) (T := 3) List.mem_cons_self (fun R w' h b hb => (h.1 b hb).1) (fun l1 hl1 => ?_)
        rw [ints_length] at hl1
        (repeat' ((conv => whnf) <;> first | (show callK _ 65 _ _ _ _ _; (refine ry_rn (by decide) (by repeat (first | exact List.mem_cons_self | apply List.mem_cons_of_mem)) (by first | exact h0 | exact rdBase_and h0 | exact rdBase_and (rdBase_and h0) | exact rdBase_and (rdBase_and (rdBase_and h0)) | exact rdBase_and (rdBase_and (rdBase_and (rdBase_and h0)))) hr hbs (fun v hr hbs => ?_))) | (show callK _ 66 _ _ _ _ _; (refine ry_rsigned (by repeat (first | exact List.mem_cons_self | apply List.mem_cons_of_mem)) (by first | exact h0 | exact rdBase_and h0 | exact rdBase_and (rdBase_and h0) | exact rdBase_and (rdBase_and (rdBase_and h0)) | exact rdBase_and (rdBase_and (rdBase_and (rdBase_and h0)))) hr hbs (fun v hr hbs => ?_))) | (show callK _ 67 _ _ _ _ _; (refine ry_rrow (by repeat (first | exact List.mem_cons_self | apply List.mem_cons_of_mem)) (by first | exact h0 | exact rdBase_and h0 | exact rdBase_and (rdBase_and h0) | exact rdBase_and (rdBase_and (rdBase_and h0)) | exact rdBase_and (rdBase_and (rdBase_and (rdBase_and h0)))) hr hbs (fun y v hr hbs hy hys => ?_))) | (show callK _ 68 _ _ _ _ _; (refine ry_rend (by repeat (first | exact List.mem_cons_self | apply List.mem_cons_of_mem)) (by first | exact h0 | exact rdBase_and h0 | exact rdBase_and (rdBase_and h0) | exact rdBase_and (rdBase_and (rdBase_and h0)) | exact rdBase_and (rdBase_and (rdBase_and (rdBase_and h0)))) hr hbs (fun v hr hbs => ?_))) | (show keepK _ _ _ _ _; (refine keep_of (by repeat (first | exact List.Sublist.refl _ | exact List.nil_sublist _ | apply List.Sublist.cons_cons | apply List.Sublist.cons)) (by first | exact (fun _ _ h => h) | exact (fun _ _ h => h.1) | exact (fun _ _ h => h.1.1)) ?_)) | (show leK _ _ _; (refine le_of (by rw [nodeRows_length, hm]; exact Nat.le_refl _) ?_)) | (show roomK _ _ _; (refine room_of (by show (m + 1) * 120 ≤ 140737488355328; omega) ?_)) | (show drawK _ 2 _ _ _ _ _ _; (refine draw_quiet tabOk mixed (by kernel_rfl) ?_)) | (show drawK _ 14 _ _ _ _ _ _; (refine draw_tree tabOk mixed [7] _ (.take 0 (.take 1 (.take 2 (.one 3 (.one 4 (.one 5 (.take 6 (.one 7 (.done))))))))) (by kernel_rfl) (by kernel_rfl) (by kernel_rfl) (List.Sublist.refl _) ?_)) | (show Wp _ _ _ _ _ _ _; (refine Wp.go tabOk rfl ?_)) | (show @cmpK _ _ _; (first | refine cmp_yes (by omega) ?_ | refine cmp_no (by omega) ?_ | (refine cmp_both ?_ ?_ <;> intro _))) | (show wrapK _ _ _; (refine wrap_i64 (by omega) (by omega) ?_)) | (show leK _ _ _; (refine le_of (by first | exact Nat.le_refl _ | omega) ?_)) | (show roomK _ _ _; (refine room_of (by first | omega | (dsimp only; omega)) ?_)) | (show ltK _ _ _; (refine lt_of (by omega) ?_)) | (show _ ∧ _; (refine ⟨?_, ?_⟩)) | (show keepK _ _ _ _ _; (refine keep_of (by first | exact List.Sublist.refl _ | exact List.Sublist.cons _ (List.Sublist.refl _) | exact List.Sublist.cons _ (List.Sublist.cons _ (List.Sublist.refl _)) | exact List.Sublist.cons _ (List.Sublist.cons _ (List.Sublist.cons _ (List.Sublist.refl _)))) (by first | exact (fun _ _ h => h) | exact (fun _ _ h => h.1) | exact (fun _ _ h => h.1.1)) ?_)) | (show ownK _ _ _ _ _; (refine own_keep ?_))))
        conv => whnf
        rename_i y1 v1 hr1 hbs1 hy1 hys1
        subst hd
        exact ⟨(k - 1, m + 1, l ++ [(NodeV.mk (ndA s').1 (ndB s').1 (ndC s').1 (IntsV.mk l1.base l1.cap (ndS s').1) (ndL s').1 (ndH s').1 (ndZ s').1 y1 y)], (readNode s').2, _), [(4, some 8)], ⟨by
            rw [List.map_append, List.map_cons, List.map_nil]
            have : (⟨(ndA s').1, (ndB s').1, (ndC s').1, ⟨l1.base, l1.cap, (ndS s').1⟩, (ndL s').1, (ndH s').1, (ndZ s').1, y1, y⟩ : NodeV).pl = (readNode s').1 := by
              unfold readNode NodeV.pl; simp only [hy1, hy]
            rw [this]; exact hR.next' hgo.1 hz, by rw [hm]; simp, by omega, by rw [List.length_append, List.length_singleton]; omega, (fun n hn => by
          rcases List.mem_append.1 hn with h | h
          · exact hf n h
          · simp at h; subst h; exact ⟨⟨hf2, hl1, by show (ndS s').1.length ≤ 1000000; omega⟩, hys1, hys, num_i64 b1, num_i64 b2, num_i64 b3, sg_i64 c1, sg_i64 c2, num_i64 c3⟩), by assumption, by assumption⟩, by simp only; omega, rfl, ⟨rfl, rfl, rfl, rfl, trivial⟩, ⟨node_snoc' l (NodeV.mk (ndA s').1 (ndB s').1 (ndC s').1 (IntsV.mk l1.base l1.cap (ndS s').1) (ndL s').1 (ndH s').1 (ndZ s').1 y1 y) hm, (by repeat (first | exact List.mem_cons_self | apply List.mem_cons_of_mem)), (by repeat (first | exact List.mem_cons_self | apply List.mem_cons_of_mem)), (by repeat (first | exact List.mem_cons_self | apply List.mem_cons_of_mem)), (by repeat (first | exact List.mem_cons_self | apply List.mem_cons_of_mem)), trivial⟩, fun _ _ h => ⟨h.1.1.1.1, nodesR_snoc h.1.1.1.2 ⟨fun _ => h.1.1.2, h.1.2, h.2⟩⟩⟩
  · have hst := hR.stop (by omega)
    have hp : l.map NodeV.pl = (rgN x.bs).1 := by rw [← hst]
    obtain rfl : s' = (rgN x.bs).2 := by rw [← hst]
    have c3 := rd1_bound (s := (rgN x.bs).2) (bytes_rest hr hbs h0.bytes)
    have hfew' : ∀ n ∈ l.map NodeV.pl, n.data.length ≤ 5000 ∧ n.bias.length ≤ 5000 := fun n hn => hfew n (hp ▸ hn)
    by_cases hz : (rgZ x.bs).1 ≠ 0
    · have hq : readGraph x.bs = ([], 0, (rgZ x.bs).1) := if_pos hz
      (repeat' ((conv => whnf) <;> first | (show callK _ 65 _ _ _ _ _; (refine ry_rn (by decide) (by repeat (first | exact List.mem_cons_self | apply List.mem_cons_of_mem)) (by first | exact h0 | exact rdBase_and h0 | exact rdBase_and (rdBase_and h0) | exact rdBase_and (rdBase_and (rdBase_and h0)) | exact rdBase_and (rdBase_and (rdBase_and (rdBase_and h0)))) hr hbs (fun v hr hbs => ?_))) | (show callK _ 66 _ _ _ _ _; (refine ry_rsigned (by repeat (first | exact List.mem_cons_self | apply List.mem_cons_of_mem)) (by first | exact h0 | exact rdBase_and h0 | exact rdBase_and (rdBase_and h0) | exact rdBase_and (rdBase_and (rdBase_and h0)) | exact rdBase_and (rdBase_and (rdBase_and (rdBase_and h0)))) hr hbs (fun v hr hbs => ?_))) | (show callK _ 67 _ _ _ _ _; (refine ry_rrow (by repeat (first | exact List.mem_cons_self | apply List.mem_cons_of_mem)) (by first | exact h0 | exact rdBase_and h0 | exact rdBase_and (rdBase_and h0) | exact rdBase_and (rdBase_and (rdBase_and h0)) | exact rdBase_and (rdBase_and (rdBase_and (rdBase_and h0)))) hr hbs (fun y v hr hbs hy hys => ?_))) | (show callK _ 68 _ _ _ _ _; (refine ry_rend (by repeat (first | exact List.mem_cons_self | apply List.mem_cons_of_mem)) (by first | exact h0 | exact rdBase_and h0 | exact rdBase_and (rdBase_and h0) | exact rdBase_and (rdBase_and (rdBase_and h0)) | exact rdBase_and (rdBase_and (rdBase_and (rdBase_and h0)))) hr hbs (fun v hr hbs => ?_))) | (show keepK _ _ _ _ _; (refine keep_of (by repeat (first | exact List.Sublist.refl _ | exact List.nil_sublist _ | apply List.Sublist.cons_cons | apply List.Sublist.cons)) (by first | exact (fun _ _ h => h) | exact (fun _ _ h => h.1) | exact (fun _ _ h => h.1.1)) ?_)) | (show @cmpK _ _ _; (refine cmp_yes hz ?_)) | (show drawK _ 2 _ _ _ _ _ _; (refine draw_quiet tabOk mixed (by kernel_rfl) ?_)) | (show drawK _ 14 _ _ _ _ _ _; (refine draw_tree tabOk mixed [7] _ (.take 0 (.take 1 (.take 2 (.one 3 (.one 4 (.one 5 (.take 6 (.one 7 (.done))))))))) (by kernel_rfl) (by kernel_rfl) (by kernel_rfl) (List.Sublist.refl _) ?_)) | (show Wp _ _ _ _ _ _ _; (refine Wp.go tabOk rfl ?_)) | (show @cmpK _ _ _; (first | refine cmp_yes (by omega) ?_ | refine cmp_no (by omega) ?_ | (refine cmp_both ?_ ?_ <;> intro _))) | (show wrapK _ _ _; (refine wrap_i64 (by omega) (by omega) ?_)) | (show leK _ _ _; (refine le_of (by first | exact Nat.le_refl _ | omega) ?_)) | (show roomK _ _ _; (refine room_of (by first | omega | (dsimp only; omega)) ?_)) | (show ltK _ _ _; (refine lt_of (by omega) ?_)) | (show _ ∧ _; (refine ⟨?_, ?_⟩)) | (show keepK _ _ _ _ _; (refine keep_of (by first | exact List.Sublist.refl _ | exact List.Sublist.cons _ (List.Sublist.refl _) | exact List.Sublist.cons _ (List.Sublist.cons _ (List.Sublist.refl _)) | exact List.Sublist.cons _ (List.Sublist.cons _ (List.Sublist.cons _ (List.Sublist.refl _)))) (by first | exact (fun _ _ h => h) | exact (fun _ _ h => h.1) | exact (fun _ _ h => h.1.1)) ?_)) | (show ownK _ _ _ _ _; (refine own_keep ?_))))
      all_goals (conv => whnf)
      all_goals exact read_bad (fun _ _ h => h.1) rfl hq
    · (repeat' ((conv => whnf) <;> first | (show callK _ 65 _ _ _ _ _; (refine ry_rn (by decide) (by repeat (first | exact List.mem_cons_self | apply List.mem_cons_of_mem)) (by first | exact h0 | exact rdBase_and h0 | exact rdBase_and (rdBase_and h0) | exact rdBase_and (rdBase_and (rdBase_and h0)) | exact rdBase_and (rdBase_and (rdBase_and (rdBase_and h0)))) hr hbs (fun v hr hbs => ?_))) | (show callK _ 66 _ _ _ _ _; (refine ry_rsigned (by repeat (first | exact List.mem_cons_self | apply List.mem_cons_of_mem)) (by first | exact h0 | exact rdBase_and h0 | exact rdBase_and (rdBase_and h0) | exact rdBase_and (rdBase_and (rdBase_and h0)) | exact rdBase_and (rdBase_and (rdBase_and (rdBase_and h0)))) hr hbs (fun v hr hbs => ?_))) | (show callK _ 67 _ _ _ _ _; (refine ry_rrow (by repeat (first | exact List.mem_cons_self | apply List.mem_cons_of_mem)) (by first | exact h0 | exact rdBase_and h0 | exact rdBase_and (rdBase_and h0) | exact rdBase_and (rdBase_and (rdBase_and h0)) | exact rdBase_and (rdBase_and (rdBase_and (rdBase_and h0)))) hr hbs (fun y v hr hbs hy hys => ?_))) | (show callK _ 68 _ _ _ _ _; (refine ry_rend (by repeat (first | exact List.mem_cons_self | apply List.mem_cons_of_mem)) (by first | exact h0 | exact rdBase_and h0 | exact rdBase_and (rdBase_and h0) | exact rdBase_and (rdBase_and (rdBase_and h0)) | exact rdBase_and (rdBase_and (rdBase_and (rdBase_and h0)))) hr hbs (fun v hr hbs => ?_))) | (show keepK _ _ _ _ _; (refine keep_of (by repeat (first | exact List.Sublist.refl _ | exact List.nil_sublist _ | apply List.Sublist.cons_cons | apply List.Sublist.cons)) (by first | exact (fun _ _ h => h) | exact (fun _ _ h => h.1) | exact (fun _ _ h => h.1.1)) ?_)) | (show @cmpK _ _ _; (refine cmp_no hz ?_)) | (show drawK _ 2 _ _ _ _ _ _; (refine draw_quiet tabOk mixed (by kernel_rfl) ?_)) | (show drawK _ 14 _ _ _ _ _ _; (refine draw_tree tabOk mixed [7] _ (.take 0 (.take 1 (.take 2 (.one 3 (.one 4 (.one 5 (.take 6 (.one 7 (.done))))))))) (by kernel_rfl) (by kernel_rfl) (by kernel_rfl) (List.Sublist.refl _) ?_)) | (show Wp _ _ _ _ _ _ _; (refine Wp.go tabOk rfl ?_)) | (show @cmpK _ _ _; (first | refine cmp_yes (by omega) ?_ | refine cmp_no (by omega) ?_ | (refine cmp_both ?_ ?_ <;> intro _))) | (show wrapK _ _ _; (refine wrap_i64 (by omega) (by omega) ?_)) | (show leK _ _ _; (refine le_of (by first | exact Nat.le_refl _ | omega) ?_)) | (show roomK _ _ _; (refine room_of (by first | omega | (dsimp only; omega)) ?_)) | (show ltK _ _ _; (refine lt_of (by omega) ?_)) | (show _ ∧ _; (refine ⟨?_, ?_⟩)) | (show keepK _ _ _ _ _; (refine keep_of (by first | exact List.Sublist.refl _ | exact List.Sublist.cons _ (List.Sublist.refl _) | exact List.Sublist.cons _ (List.Sublist.cons _ (List.Sublist.refl _)) | exact List.Sublist.cons _ (List.Sublist.cons _ (List.Sublist.cons _ (List.Sublist.refl _)))) (by first | exact (fun _ _ h => h) | exact (fun _ _ h => h.1) | exact (fun _ _ h => h.1.1)) ?_)) | (show ownK _ _ _ _ _; (refine own_keep ?_))))
      all_goals
        refine call_check (f := 18) (check (graphP (rgN x.bs).1 (rgO x.bs).1)) Try.call18 (fun ρ w' hw => ?_) (fun hne => ?_) (fun he sv _ _ => ?_)
        · have hg : (⟨(ρ 4).base, (ρ 4).cap, l, (rgO x.bs).1⟩ : GraphV).ok w' := holds_of_abs hw fun R h => sane_graph hf (by omega) (rows_of_abs hw (by repeat (first | exact List.mem_cons_self | apply List.mem_cons_of_mem))) ((nodesR l).mono h.2 (fun b hb => hb.1)) (num_i64 c3) hfew'
          have := refCheck_any w' _ hg
          rw [check_graphP hp] at this
          rw [hm]
          exact this
        · have hq : readGraph x.bs = ([], 0, (check (graphP (rgN x.bs).1 (rgO x.bs).1)).1) := by unfold readGraph; rw [if_neg hz, if_pos hne]
          (repeat' ((conv => whnf) <;> first | (show @cmpK _ _ _; (refine cmp_yes hne ?_)) | (show drawK _ 2 _ _ _ _ _ _; (refine draw_quiet tabOk mixed (by kernel_rfl) ?_)) | (show drawK _ 14 _ _ _ _ _ _; (refine draw_tree tabOk mixed [7] _ (.take 0 (.take 1 (.take 2 (.one 3 (.one 4 (.one 5 (.take 6 (.one 7 (.done))))))))) (by kernel_rfl) (by kernel_rfl) (by kernel_rfl) (List.Sublist.refl _) ?_)) | (show Wp _ _ _ _ _ _ _; (refine Wp.go tabOk rfl ?_)) | (show @cmpK _ _ _; (first | refine cmp_yes (by omega) ?_ | refine cmp_no (by omega) ?_ | (refine cmp_both ?_ ?_ <;> intro _))) | (show wrapK _ _ _; (refine wrap_i64 (by omega) (by omega) ?_)) | (show leK _ _ _; (refine le_of (by first | exact Nat.le_refl _ | omega) ?_)) | (show roomK _ _ _; (refine room_of (by first | omega | (dsimp only; omega)) ?_)) | (show ltK _ _ _; (refine lt_of (by omega) ?_)) | (show _ ∧ _; (refine ⟨?_, ?_⟩)) | (show keepK _ _ _ _ _; (refine keep_of (by first | exact List.Sublist.refl _ | exact List.Sublist.cons _ (List.Sublist.refl _) | exact List.Sublist.cons _ (List.Sublist.cons _ (List.Sublist.refl _)) | exact List.Sublist.cons _ (List.Sublist.cons _ (List.Sublist.cons _ (List.Sublist.refl _)))) (by first | exact (fun _ _ h => h) | exact (fun _ _ h => h.1) | exact (fun _ _ h => h.1.1)) ?_)) | (show ownK _ _ _ _ _; (refine own_keep ?_))))
          conv => whnf
          exact read_bad (fun _ _ h => h.1) rfl hq
        · have hq : readGraph x.bs = ((rgN x.bs).1, (rgO x.bs).1, 0) := by unfold readGraph; rw [if_neg hz, if_neg (fun h => h he)]
          (repeat' ((conv => whnf) <;> first | (show drawK _ 2 _ _ _ _ _ _; (refine draw_quiet tabOk mixed (by kernel_rfl) ?_)) | (show drawK _ 14 _ _ _ _ _ _; (refine draw_tree tabOk mixed [7] _ (.take 0 (.take 1 (.take 2 (.one 3 (.one 4 (.one 5 (.take 6 (.one 7 (.done))))))))) (by kernel_rfl) (by kernel_rfl) (by kernel_rfl) (List.Sublist.refl _) ?_)) | (show Wp _ _ _ _ _ _ _; (refine Wp.go tabOk rfl ?_)) | (show @cmpK _ _ _; (first | refine cmp_yes (by omega) ?_ | refine cmp_no (by omega) ?_ | (refine cmp_both ?_ ?_ <;> intro _))) | (show wrapK _ _ _; (refine wrap_i64 (by omega) (by omega) ?_)) | (show leK _ _ _; (refine le_of (by first | exact Nat.le_refl _ | omega) ?_)) | (show roomK _ _ _; (refine room_of (by first | omega | (dsimp only; omega)) ?_)) | (show ltK _ _ _; (refine lt_of (by omega) ?_)) | (show _ ∧ _; (refine ⟨?_, ?_⟩)) | (show keepK _ _ _ _ _; (refine keep_of (by first | exact List.Sublist.refl _ | exact List.Sublist.cons _ (List.Sublist.refl _) | exact List.Sublist.cons _ (List.Sublist.cons _ (List.Sublist.refl _)) | exact List.Sublist.cons _ (List.Sublist.cons _ (List.Sublist.cons _ (List.Sublist.refl _)))) (by first | exact (fun _ _ h => h) | exact (fun _ _ h => h.1) | exact (fun _ _ h => h.1.1)) ?_)) | (show ownK _ _ _ _ _; (refine own_keep ?_))))
          conv => whnf
          exact read_good (fun _ _ h => h.1.1) rfl (by repeat (first | exact List.mem_cons_self | apply List.mem_cons_of_mem)) hm hf (by omega) (num_i64 c3) (fun _ _ h => h.1.2) (by rw [hp]; exact hq)
end Go.Proofs.Ytajbngkcgbehlaa
