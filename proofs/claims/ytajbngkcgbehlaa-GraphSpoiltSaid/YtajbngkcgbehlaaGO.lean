import Derived.Test.YtajbngkcgbehlaaGN
namespace Go.Proofs.Ytajbngkcgbehlaa
open Go.SX Go.RowKit
def RShapePost (w : World) (n : NodeV) (l : List IntsV) (r : Option (List Int)) (e : Ending) (w' : World) : Prop :=
  ∃ v : Value, e = .returned v ∧ Ext w w' ∧ (r = none → v = .slice none 0 0) ∧
    ∀ xs, r = some xs → ∃ u : IntsV, v = u.val ∧ u.xs = xs ∧ (u = n.shape ∨ u ∈ l ∨ (u.sane ∧ (intsA u).holds (fun b => w.heap.size ≤ b ∧ b < w'.heap.size) w'))
section
variable {B : Base} {H : Heap} {S : Asn} {nx : Nat} {w : World} {n : NodeV} {l : List IntsV} {r : Option (List Int)}
theorem rends_old (u : IntsV) (hb : ∀ R w', S.holds R w' → (baseA B.w0).holds R w') (hw0 : B.w0 = w) (hu : u = n.shape ∨ u ∈ l) (hr : r = some u.xs) : finK B (.c u.val) H S nx (RShapePost w n l r) := by
  subst hw0 hr
  exact fin_of fun ρ w' hw => ⟨_, rfl, ext_of_abs hw hb, (fun h => by cases h), fun xs h => ⟨u, rfl, by simpa using h, hu.elim .inl fun h => .inr (.inl h)⟩⟩
theorem rends_no (hb : ∀ R w', S.holds R w' → (baseA B.w0).holds R w') (hw0 : B.w0 = w) (hr : r = none) : finK B (.c (.slice none 0 0)) H S nx (RShapePost w n l r) := by
  subst hw0 hr
  exact fin_of fun ρ w' hw => ⟨_, rfl, ext_of_abs hw hb, fun _ => rfl, fun xs h => by cases h⟩
theorem rends_new {i m : Nat} {xs : List Int} (hb : ∀ R w', S.holds R w' → (baseA B.w0).holds R w') (hw0 : B.w0 = w) (he : (i, Ent.rows (ints xs) 1 3) ∈ H) (hm : m = xs.length) (hf : ∀ x ∈ xs, -9223372036854775808 ≤ x ∧ x ≤ 9223372036854775807) (hl : xs.length ≤ 1000000) (hr : r = some xs) :
    finK B (.os i m) H S nx (RShapePost w n l r) := by
  subst hw0 hr hm
  refine fin_of fun ρ w' hw => ?_
  have hn := new_of_abs hw hb he
  rw [ints_length] at hn
  obtain ⟨u, h1, h2, h3, h4⟩ := newInts hn hf hl
  exact ⟨_, rfl, ext_of_abs hw hb, (fun h => by cases h), fun ys h => ⟨u, h1, by rw [h2]; simpa using h, .inr (.inr ⟨h3, h4⟩)⟩⟩
end
theorem refEntries_ints (w : World) (s : IntsV) (h : s.ok w) : Calls Try.prog 21 #[s.val] w fun e w' => e = .returned (.int .i64 (entries s.xs)) ∧ Ext w w' := refEntries_any w s.base s.cap s.xs h.rows
theorem mayL_own {n : NodeV} (h : n.kind = 1 ∨ n.kind = 2) : ∃ r, mayL n.kind = some (false :: r) ∧ (false :: r).length = 7 := by
  rcases h with h | h <;> rw [h] <;> unfold mayL <;> exact ⟨_, rfl, rfl⟩
theorem mayL_ahead {n : NodeV} {at_ : Nat} (hf : Formed n at_) (h : ¬ (n.kind = 1 ∨ n.kind = 2)) : ∃ r, mayL n.kind = some (true :: r) ∧ (true :: r).length = 7 := by
  have h2 := hf.kind
  have : n.kind = 3 ∨ n.kind = 4 ∨ n.kind = 5 ∨ n.kind = 6 ∨ n.kind = 7 ∨ n.kind = 8 ∨ n.kind = 9 := by omega
  rcases this with h | h | h | h | h | h | h <;> rw [h] <;> unfold mayL <;> exact ⟨_, rfl, rfl⟩
set_option maxRecDepth 20000 in
set_option maxHeartbeats 8000000 in
theorem refShape_own (w : World) (n : NodeV) (hn : n.ok w) (sv : ShapesV) (h12 : n.kind = 1 ∨ n.kind = 2) :
    Calls Try.prog 47 #[.agg n.cells.toArray, sv.val] w (RShapePost w n sv.l (shapeO n (sv.l.map (·.xs)))) := by
  have hsp : shapeO n (sv.l.map (·.xs)) = some n.shape.xs := by unfold shapeO; rw [if_pos h12]
  obtain ⟨r, hm, hr⟩ := mayL_own h12
  refine calls_of tab tabOk Try.func47 rfl rfl rfl [] (fun _ => ⟨none, 0⟩) [.agg [.c (.int .i64 n.kind), .c (.int .i64 n.a), .c (.int .i64 n.b), .c n.shape.val, .c (.int .i64 n.lo), .c (.int .i64 n.hi), .c (.int .i64 n.size), .c n.data.val, .c n.bias.val], .c sv.val] [] (baseA w) 0 rfl rfl (by show 2 ≤ _; decide) (abs_base w) ?_
  (repeat' ((conv => whnf) <;> first | (show callK _ 92 _ _ _ _ _; (refine call_bools (f := 92) (false :: r) 7 hr Try.call92 (fun ρ w' hw => may_any w' n.kind _ hm) (fun m am hml ham hmn => ?_))) | (show idxK _ _ _ _ _; (refine idx_of am 0 ham rfl (by omega) ?_)) | (show roK _ _ _; (refine ro_bool (j := 0) (fun R w' h => boolsA_in hml ham h.2) (by rw [hr]; decide) ?_)) | (show drawK _ 9 _ _ _ _ _ _; (refine draw_quiet tabOk mixed (by kernel_rfl) ?_)) | (show drawK _ 13 _ _ _ _ _ _; (refine draw_quiet tabOk mixed (by kernel_rfl) ?_)) | (show drawK _ 15 _ _ _ _ _ _; (refine draw_tree tabOk mixed [] _ (.take 0 (.take 1 (.take 2 (.take 3 (.take 4 (.take 5 (.take 6 (.take 7 (.take 8 (.take 9 (.take 10 (.take 11 (.take 12 (.take 13 (.take 14 (.take 15 (.take 16 (.take 17 (.take 18 (.take 19 (.take 20 (.take 21 (.one 22 (.take 23 (.done))))))))))))))))))))))))) (by kernel_rfl) (by kernel_rfl) (by kernel_rfl) (List.Sublist.refl _) ?_)) | (show drawK _ 20 _ _ _ _ _ _; (refine draw_quiet tabOk mixed (by kernel_rfl) ?_)) | (show drawK _ 22 _ _ _ _ _ _; (refine draw_tree tabOk mixed [] _ (.take 0 (.take 1 (.take 2 (.take 3 (.take 4 (.take 5 (.take 6 (.take 7 (.take 8 (.take 9 (.take 10 (.take 11 (.take 12 (.take 13 (.take 14 (.one 15 (.take 16 (.done)))))))))))))))))) (by kernel_rfl) (by kernel_rfl) (by kernel_rfl) (List.Sublist.refl _) ?_)) | (show Wp _ _ _ _ _ _ _; (refine Wp.go tabOk rfl ?_)) | (show @cmpK _ _ _; (first | refine cmp_yes (by omega) ?_ | refine cmp_no (by omega) ?_ | (refine cmp_both ?_ ?_ <;> intro _))) | (show wrapK _ _ _; (refine wrap_i64 (by omega) (by omega) ?_)) | (show leK _ _ _; (refine le_of (by first | exact Nat.le_refl _ | omega) ?_)) | (show roomK _ _ _; (refine room_of (by first | omega | (dsimp only; omega)) ?_)) | (show ltK _ _ _; (refine lt_of (by omega) ?_)) | (show _ ∧ _; (refine ⟨?_, ?_⟩)) | (show keepK _ _ _ _ _; (refine keep_of (by first | exact List.Sublist.refl _ | exact List.Sublist.cons _ (List.Sublist.refl _) | exact List.Sublist.cons _ (List.Sublist.cons _ (List.Sublist.refl _)) | exact List.Sublist.cons _ (List.Sublist.cons _ (List.Sublist.cons _ (List.Sublist.refl _)))) (by first | exact (fun _ _ h => h) | exact (fun _ _ h => h.1) | exact (fun _ _ h => h.1.1)) ?_)) | (show ownK _ _ _ _ _; (refine own_keep ?_))))
  all_goals (conv => whnf)
  all_goals exact rends_old (B := ⟨w, []⟩) (S := (baseA w).and ((boolsA m).past w.heap.size)) n.shape (fun _ _ h => h.1) rfl (.inl rfl) hsp
set_option maxRecDepth 20000 in
set_option maxHeartbeats 8000000 in
theorem refShape_ahead (w : World) (n : NodeV) (hn : n.ok w) (sv : ShapesV) (hs : sv.ok w) (hf : Formed n sv.l.length) (hg : ∀ s ∈ sv.l, 0 < entries s.xs) (h12 : ¬ (n.kind = 1 ∨ n.kind = 2)) :
    Calls Try.prog 47 #[.agg n.cells.toArray, sv.val] w (RShapePost w n sv.l (shapeO n (sv.l.map (·.xs)))) := by
  obtain ⟨r, hm, hr⟩ := mayL_ahead hf h12
  obtain ⟨ha0, ha1⟩ := hf.a (by omega) (by omega)
  obtain ⟨i, hia⟩ := Int.eq_ofNat_of_zero_le ha0
  have hil : i < sv.l.length := by omega
  obtain ⟨s, hi⟩ : ∃ s, sv.l[i]? = some s := ⟨_, List.getElem?_eq_getElem hil⟩
  have hA : (sv.l.map (·.xs)).getD n.a.toNat [] = s.xs := by rw [hia]; simp [List.getD, hi]
  have hg := hg s (List.mem_of_getElem? hi)
  have hso := hs.each s (List.mem_of_getElem? hi)
  have hri : (shRows sv.l)[i]? = some [s.val] := by rw [shRows_get hil, (List.getElem?_eq_some_iff.1 hi).2]
  obtain ⟨b, hb⟩ : ∃ a, sv.base = some a := base_some (j := i) hs.rows (by rw [shRows_length]; exact hil)
  obtain ⟨hl1, hl3, hd⟩ := entries_dims hg
  obtain ⟨a, hsb⟩ := hso.base (by omega)
  have hd0 : 0 < s.xs.length → 1 ≤ s.xs.getD 0 0 ∧ s.xs.getD 0 0 ≤ 64 := fun h => hd _ (getD_mem h)
  have hd1 : 1 < s.xs.length → 1 ≤ s.xs.getD 1 0 ∧ s.xs.getD 1 0 ≤ 64 := fun h => hd _ (getD_mem h)
  have hd2 : 2 < s.xs.length → 1 ≤ s.xs.getD 2 0 ∧ s.xs.getD 2 0 ≤ 64 := fun h => hd _ (getD_mem h)
  have hz := hf.pool
  have hq1 : n.kind = 5 → 1 < s.xs.length → 0 ≤ s.xs.getD 1 0 / n.size ∧ s.xs.getD 1 0 / n.size ≤ 64 := fun g h => by have := hz g; exact ⟨Int.ediv_nonneg (by omega) (by omega), Int.le_trans (Int.ediv_le_self _ (by omega)) (by omega)⟩
  have hq2 : n.kind = 5 → 2 < s.xs.length → 0 ≤ s.xs.getD 2 0 / n.size ∧ s.xs.getD 2 0 / n.size ≤ 64 := fun g h => by have := hz g; exact ⟨Int.ediv_nonneg (by omega) (by omega), Int.le_trans (Int.ediv_le_self _ (by omega)) (by omega)⟩
  have hbi := hf.bias
  have hmu : n.kind = 3 → 0 ≤ (n.bias.xs.length : Int) * entries s.xs ∧ (n.bias.xs.length : Int) * entries s.xs ≤ 4096 := fun g => by
    have h1 := entries_bd s.xs
    have h2 : (n.bias.xs.length : Int) * entries s.xs ≤ 64 * 64 := Int.mul_le_mul (by have := hbi g; omega) h1.2 h1.1 (by omega)
    have h3 : 0 ≤ (n.bias.xs.length : Int) * entries s.xs := Int.mul_nonneg (by omega) h1.1
    omega
  have hkd : n.kind = 4 → n.shape.xs.length = 4 ∧ (1 ≤ n.shape.xs.getD 0 0 ∧ n.shape.xs.getD 0 0 ≤ 64) ∧ (1 ≤ n.shape.xs.getD 1 0 ∧ n.shape.xs.getD 1 0 ≤ 64) ∧ (1 ≤ n.shape.xs.getD 2 0 ∧ n.shape.xs.getD 2 0 ≤ 64) ∧ (1 ≤ n.shape.xs.getD 3 0 ∧ n.shape.xs.getD 3 0 ≤ 64) := fun g => by
    obtain ⟨hk4, hkd⟩ := kernel_dims (hf.kern g)
    exact ⟨hk4, hkd _ (getD_mem (by omega)), hkd _ (getD_mem (by omega)), hkd _ (getD_mem (by omega)), hkd _ (getD_mem (by omega))⟩
  obtain ⟨c, hc⟩ := ints_base hn.shape
  have hE := entries_bd [n.shape.xs.getD 0 0, s.xs.getD 1 0 - n.shape.xs.getD 2 0 + 1, s.xs.getD 2 0 - n.shape.xs.getD 3 0 + 1]
  by_cases h6 : n.kind = 6
  · obtain ⟨hb0, hb1⟩ := hf.b h6
    obtain ⟨j, hjb⟩ := Int.eq_ofNat_of_zero_le hb0
    have hjl : j < sv.l.length := by omega
    obtain ⟨t, hj⟩ : ∃ t, sv.l[j]? = some t := ⟨_, List.getElem?_eq_getElem hjl⟩
    have hB : (sv.l.map (·.xs)).getD n.b.toNat [] = t.xs := by rw [hjb]; simp [List.getD, hj]
    have hto := hs.each t (List.mem_of_getElem? hj)
    have hrj : (shRows sv.l)[j]? = some [t.val] := by rw [shRows_get hjl, (List.getElem?_eq_some_iff.1 hj).2]
    have hsp : shapeO n (sv.l.map (·.xs)) = if s.xs = t.xs then some s.xs else none := by
      unfold shapeO; simp only [hA, hB]; repeat (first | rw [if_pos (by omega)] | rw [if_neg (by omega)])
    refine calls_of tab tabOk Try.func47 rfl rfl rfl [] (fun _ => ⟨none, 0⟩) [.agg [.c (.int .i64 n.kind), .c (.int .i64 n.a), .c (.int .i64 n.b), .c n.shape.val, .c (.int .i64 n.lo), .c (.int .i64 n.hi), .c (.int .i64 n.size), .c n.data.val, .c n.bias.val], .c sv.val] [] (baseA w) 0 rfl rfl (by show 2 ≤ _; decide) (abs_base w) ?_
    (repeat' ((conv => whnf) <;> first | (show callK _ 92 _ _ _ _ _; (refine call_bools (f := 92) (true :: r) 7 hr Try.call92 (fun ρ w' hw => may_any w' n.kind _ hm) (fun m am hml ham hmn => ?_))) | (show idxK _ _ _ _ _; (first | refine idx_of am 0 ham rfl (by omega) ?_ | refine idx_of b i hb hia hil ?_ | refine idx_of b j hb hjb hjl ?_)) | (show roK _ _ _; (first | refine ro_bool (j := 0) (fun R w' h => boolsA_in hml ham h.2) (by rw [hr]; decide) ?_ | refine ro_row0 (fun R w' h => by rw [← hb]; exact rows_base h.1 hs.rows) _ _ hri rfl ?_ | refine ro_row0 (fun R w' h => by rw [← hb]; exact rows_base h.1 hs.rows) _ _ hrj rfl ?_)) | (show callK _ 39 _ _ _ _ _; ((refine call_bool (f := 39) Try.call39 _ (fun ρ w' hw => same_any w' s t (holds_of_abs hw fun R h => hso.later h.1) (holds_of_abs hw fun R h => hto.later h.1)) ?_ ?_ <;> intro he))) | (show drawK _ 9 _ _ _ _ _ _; (refine draw_quiet tabOk mixed (by kernel_rfl) ?_)) | (show drawK _ 13 _ _ _ _ _ _; (refine draw_quiet tabOk mixed (by kernel_rfl) ?_)) | (show drawK _ 15 _ _ _ _ _ _; (refine draw_tree tabOk mixed [] _ (.take 0 (.take 1 (.take 2 (.take 3 (.take 4 (.take 5 (.take 6 (.take 7 (.take 8 (.take 9 (.take 10 (.take 11 (.take 12 (.take 13 (.take 14 (.take 15 (.take 16 (.take 17 (.take 18 (.take 19 (.take 20 (.take 21 (.one 22 (.take 23 (.done))))))))))))))))))))))))) (by kernel_rfl) (by kernel_rfl) (by kernel_rfl) (List.Sublist.refl _) ?_)) | (show drawK _ 20 _ _ _ _ _ _; (refine draw_quiet tabOk mixed (by kernel_rfl) ?_)) | (show drawK _ 22 _ _ _ _ _ _; (refine draw_tree tabOk mixed [] _ (.take 0 (.take 1 (.take 2 (.take 3 (.take 4 (.take 5 (.take 6 (.take 7 (.take 8 (.take 9 (.take 10 (.take 11 (.take 12 (.take 13 (.take 14 (.one 15 (.take 16 (.done)))))))))))))))))) (by kernel_rfl) (by kernel_rfl) (by kernel_rfl) (List.Sublist.refl _) ?_)) | (show Wp _ _ _ _ _ _ _; (refine Wp.go tabOk rfl ?_)) | (show @cmpK _ _ _; (first | refine cmp_yes (by omega) ?_ | refine cmp_no (by omega) ?_ | (refine cmp_both ?_ ?_ <;> intro _))) | (show wrapK _ _ _; (refine wrap_i64 (by omega) (by omega) ?_)) | (show leK _ _ _; (refine le_of (by first | exact Nat.le_refl _ | omega) ?_)) | (show roomK _ _ _; (refine room_of (by first | omega | (dsimp only; omega)) ?_)) | (show ltK _ _ _; (refine lt_of (by omega) ?_)) | (show _ ∧ _; (refine ⟨?_, ?_⟩)) | (show keepK _ _ _ _ _; (refine keep_of (by first | exact List.Sublist.refl _ | exact List.Sublist.cons _ (List.Sublist.refl _) | exact List.Sublist.cons _ (List.Sublist.cons _ (List.Sublist.refl _)) | exact List.Sublist.cons _ (List.Sublist.cons _ (List.Sublist.cons _ (List.Sublist.refl _)))) (by first | exact (fun _ _ h => h) | exact (fun _ _ h => h.1) | exact (fun _ _ h => h.1.1)) ?_)) | (show ownK _ _ _ _ _; (refine own_keep ?_))))
    all_goals (conv => whnf)
    · exact rends_old (B := ⟨w, []⟩) (S := (baseA w).and ((boolsA m).past w.heap.size)) s (fun _ _ h => h.1) rfl (.inr (List.mem_of_getElem? hi)) (hsp.trans (if_pos (of_decide_eq_true he)))
    · exact rends_no (B := ⟨w, []⟩) (S := (baseA w).and ((boolsA m).past w.heap.size)) (fun _ _ h => h.1) rfl (hsp.trans (if_neg (of_decide_eq_false he)))
  · refine calls_of tab tabOk Try.func47 rfl rfl rfl [] (fun _ => ⟨none, 0⟩) [.agg [.c (.int .i64 n.kind), .c (.int .i64 n.a), .c (.int .i64 n.b), .c n.shape.val, .c (.int .i64 n.lo), .c (.int .i64 n.hi), .c (.int .i64 n.size), .c n.data.val, .c n.bias.val], .c sv.val] [] (baseA w) 0 rfl rfl (by show 2 ≤ _; decide) (abs_base w) ?_
    (repeat' ((conv => whnf) <;> first | (show callK _ 92 _ _ _ _ _; (refine call_bools (f := 92) (true :: r) 7 hr Try.call92 (fun ρ w' hw => may_any w' n.kind _ hm) (fun m am hml ham hmn => ?_))) | (show idxK _ _ _ _ _; (first | refine idx_of am 0 ham rfl (by omega) ?_ | refine idx_of b i hb hia hil ?_)) | (show roK _ _ _; (first | refine ro_bool (j := 0) (fun R w' h => boolsA_in hml ham h.2) (by rw [hr]; decide) ?_ | refine ro_row0 (fun R w' h => by rw [← hb]; exact rows_base h.1 hs.rows) _ _ hri rfl ?_)) | (show idxK _ _ _ _ _; (refine idx_of _ 0 hsb rfl (by omega) ?_)) | (show roK _ _ _; (refine ro_int (fun R w' h => hso.at_ hsb R w' h.1) (j := 0) (by omega) ?_)) | (show idxK _ _ _ _ _; (refine idx_of _ 1 hsb rfl (by omega) ?_)) | (show roK _ _ _; (refine ro_int (fun R w' h => hso.at_ hsb R w' h.1) (j := 1) (by omega) ?_)) | (show idxK _ _ _ _ _; (refine idx_of _ 2 hsb rfl (by omega) ?_)) | (show roK _ _ _; (refine ro_int (fun R w' h => hso.at_ hsb R w' h.1) (j := 2) (by omega) ?_)) | (show idxK _ _ _ _ _; (refine idx_of _ 0 (hc (by omega)) rfl (by omega) ?_)) | (show roK _ _ _; (refine ro_int (fun R w' h => hn.shape.at_ (hc (by omega)) R w' h.1) (j := 0) (by omega) ?_)) | (show idxK _ _ _ _ _; (refine idx_of _ 1 (hc (by omega)) rfl (by omega) ?_)) | (show roK _ _ _; (refine ro_int (fun R w' h => hn.shape.at_ (hc (by omega)) R w' h.1) (j := 1) (by omega) ?_)) | (show idxK _ _ _ _ _; (refine idx_of _ 2 (hc (by omega)) rfl (by omega) ?_)) | (show roK _ _ _; (refine ro_int (fun R w' h => hn.shape.at_ (hc (by omega)) R w' h.1) (j := 2) (by omega) ?_)) | (show idxK _ _ _ _ _; (refine idx_of _ 3 (hc (by omega)) rfl (by omega) ?_)) | (show roK _ _ _; (refine ro_int (fun R w' h => hn.shape.at_ (hc (by omega)) R w' h.1) (j := 3) (by omega) ?_)) | (show callQ _ 21 _ _ _ _ _; (refine callQ_of (f := 21) Try.call21 _ (fun ρ w' hw => refEntries_ints w' s (holds_of_abs hw fun R h => hso.later h.1)) ?_)) | (show callK _ 21 [.c s.val] _ _ _ _; (refine call_pure (f := 21) Try.call21 _ (fun ρ w' hw => refEntries_ints w' s (holds_of_abs hw fun R h => hso.later h.1)) ?_)) | (show callK _ 21 [.c n.shape.val] _ _ _ _; (refine call_pure (f := 21) Try.call21 _ (fun ρ w' hw => refEntries_ints w' n.shape (holds_of_abs hw fun R h => hn.shape.later h.1)) ?_)) | (show callK _ 21 [.os 1 3] _ _ _ _; (refine call_pure (f := 21) Try.call21 _ (fun ρ w' hw => refEntries_any w' (ρ 1).base (ρ 1).cap [n.shape.xs.getD 0 0, s.xs.getD 1 0 - n.shape.xs.getD 2 0 + 1, s.xs.getD 2 0 - n.shape.xs.getD 3 0 + 1] (rows_of_abs hw List.mem_cons_self)) ?_)) | (show remK _ _ _; (refine rem_pos (by omega) (by omega) ?_)) | (show divK _ _ _ _; (refine div_pos rfl (by omega) (by omega) (by omega) ?_)) | (show drawK _ 9 _ _ _ _ _ _; (refine draw_quiet tabOk mixed (by kernel_rfl) ?_)) | (show drawK _ 13 _ _ _ _ _ _; (refine draw_quiet tabOk mixed (by kernel_rfl) ?_)) | (show drawK _ 15 _ _ _ _ _ _; (refine draw_tree tabOk mixed [] _ (.take 0 (.take 1 (.take 2 (.take 3 (.take 4 (.take 5 (.take 6 (.take 7 (.take 8 (.take 9 (.take 10 (.take 11 (.take 12 (.take 13 (.take 14 (.take 15 (.take 16 (.take 17 (.take 18 (.take 19 (.take 20 (.take 21 (.one 22 (.take 23 (.done))))))))))))))))))))))))) (by kernel_rfl) (by kernel_rfl) (by kernel_rfl) (List.Sublist.refl _) ?_)) | (show drawK _ 20 _ _ _ _ _ _; (refine draw_quiet tabOk mixed (by kernel_rfl) ?_)) | (show drawK _ 22 _ _ _ _ _ _; (refine draw_tree tabOk mixed [] _ (.take 0 (.take 1 (.take 2 (.take 3 (.take 4 (.take 5 (.take 6 (.take 7 (.take 8 (.take 9 (.take 10 (.take 11 (.take 12 (.take 13 (.take 14 (.one 15 (.take 16 (.done)))))))))))))))))) (by kernel_rfl) (by kernel_rfl) (by kernel_rfl) (List.Sublist.refl _) ?_)) | (show Wp _ _ _ _ _ _ _; (refine Wp.go tabOk rfl ?_)) | (show @cmpK _ _ _; (first | refine cmp_yes (by omega) ?_ | refine cmp_no (by omega) ?_ | (refine cmp_both ?_ ?_ <;> intro _))) | (show wrapK _ _ _; (refine wrap_i64 (by omega) (by omega) ?_)) | (show leK _ _ _; (refine le_of (by first | exact Nat.le_refl _ | omega) ?_)) | (show roomK _ _ _; (refine room_of (by first | omega | (dsimp only; omega)) ?_)) | (show ltK _ _ _; (refine lt_of (by omega) ?_)) | (show _ ∧ _; (refine ⟨?_, ?_⟩)) | (show keepK _ _ _ _ _; (refine keep_of (by first | exact List.Sublist.refl _ | exact List.Sublist.cons _ (List.Sublist.refl _) | exact List.Sublist.cons _ (List.Sublist.cons _ (List.Sublist.refl _)) | exact List.Sublist.cons _ (List.Sublist.cons _ (List.Sublist.cons _ (List.Sublist.refl _)))) (by first | exact (fun _ _ h => h) | exact (fun _ _ h => h.1) | exact (fun _ _ h => h.1.1)) ?_)) | (show ownK _ _ _ _ _; (refine own_keep ?_))))
    all_goals (conv => whnf)
    all_goals first
      | exact rends_no (B := ⟨w, []⟩) (S := (baseA w).and ((boolsA m).past w.heap.size)) (fun _ _ h => h.1) rfl (by unfold shapeO; simp only [hA]; (repeat (first | rw [if_pos (by omega)] | rw [if_neg (by omega)])))
      | exact rends_old (B := ⟨w, []⟩) (S := (baseA w).and ((boolsA m).past w.heap.size)) s (fun _ _ h => h.1) rfl (.inr (List.mem_of_getElem? hi)) (by unfold shapeO; simp only [hA]; (repeat (first | rw [if_pos (by omega)] | rw [if_neg (by omega)])))
      | exact rends_old (B := ⟨w, []⟩) (S := (baseA w).and ((boolsA m).past w.heap.size)) n.shape (fun _ _ h => h.1) rfl (.inl rfl) (by unfold shapeO; simp only [hA]; (repeat (first | rw [if_pos (by omega)] | rw [if_neg (by omega)])))
      | exact rends_new (B := ⟨w, []⟩) (S := (baseA w).and ((boolsA m).past w.heap.size)) (xs := [(n.bias.xs.length : Int)]) (fun _ _ h => h.1) rfl List.mem_cons_self rfl (by intro x hx; simp only [List.mem_singleton] at hx; subst hx; omega) (by simp) (by unfold shapeO; simp only [hA]; (repeat (first | rw [if_pos (by omega)] | rw [if_neg (by omega)])))
      | exact rends_new (B := ⟨w, []⟩) (S := (baseA w).and ((boolsA m).past w.heap.size)) (xs := [s.xs.getD 0 0, s.xs.getD 1 0 / n.size, s.xs.getD 2 0 / n.size]) (fun _ _ h => h.1) rfl List.mem_cons_self rfl (mem3 (by omega) (by omega) (by omega)) (by simp) (by unfold shapeO; simp only [hA]; (repeat (first | rw [if_pos (by omega)] | rw [if_neg (by omega)])))
      | exact rends_new (B := ⟨w, []⟩) (S := (baseA w).and ((boolsA m).past w.heap.size)) (xs := [n.shape.xs.getD 0 0, s.xs.getD 1 0 - n.shape.xs.getD 2 0 + 1, s.xs.getD 2 0 - n.shape.xs.getD 3 0 + 1]) (fun _ _ h => h.1) rfl List.mem_cons_self rfl (mem3 (by omega) (by omega) (by omega)) (by simp) (by unfold shapeO; simp only [hA]; (repeat (first | rw [if_pos (by omega)] | rw [if_neg (by omega)])))
theorem refShape_any (w : World) (n : NodeV) (hn : n.ok w) (sv : ShapesV) (hs : sv.ok w) (hf : Formed n sv.l.length) (hg : ∀ s ∈ sv.l, 0 < entries s.xs) :
    Calls Try.prog 47 #[.agg n.cells.toArray, sv.val] w (RShapePost w n sv.l (shapeO n (sv.l.map (·.xs)))) := by
  by_cases h12 : n.kind = 1 ∨ n.kind = 2
  · exact refShape_own w n hn sv h12
  · exact refShape_ahead w n hn sv hs hf hg h12
end Go.Proofs.Ytajbngkcgbehlaa
