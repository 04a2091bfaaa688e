import Derived.Test.YtajbngkcgbehlaaGH
namespace Go.Proofs.Ytajbngkcgbehlaa
open Go.SX Go.RowKit
theorem call_shape {cx : Cx} {f : FuncId} {args : List SV} {H : Heap} {S : Asn} {nx : Nat} {K : SV → Heap → Asn → Nat → Prop} {n : NodeV} {l : List IntsV} (R0 : Option (List Int)) {r : Option (List Int)} (hf : ∀ ar w, (callFunc f ar).run cx.P w = .ok (.enter f ar) w) (hr : R0 = r)
    (hc : ∀ ρ w', Abs cx.B ρ nx H S w' → Calls cx.P f (SV.rfs ρ args).toArray w' (ShapePost w' n l r))
    (h0 : R0 = none → ∀ v, K (.c (.tuple #[v, .bool false])) H S nx)
    (h1 : ∀ u : IntsV, R0 = some u.xs → (u = n.shape ∨ u ∈ l) → K (.c (.tuple #[u.val, .bool true])) H S nx)
    (h2 : ∀ u : IntsV, R0 = some u.xs → u.sane → K (.c (.tuple #[u.val, .bool true])) H (S.and (newA cx.B.w0.heap.size u)) nx) : callK cx f args H S nx K := by
  subst hr
  rw [callK_def]
  refine ⟨hf, fun ρ w hw => (hc ρ w hw).mono ?_⟩
  rintro e w' ⟨v, ok, rfl, he, hok, hv⟩
  cases hr : R0 with
  | none =>
    rw [hr] at hok
    obtain rfl : ok = false := hok
    exact ⟨.c (.tuple #[v, .bool false]), ρ, H, S, nx, rfl, fun _ _ => rfl, Nat.le_refl _, SV.lt_c _, hw.ext he, h0 hr v⟩
  | some xs =>
    rw [hr] at hok
    obtain rfl : ok = true := hok
    obtain ⟨u, rfl, hu, hcase⟩ := hv xs hr
    rw [← hu] at hr
    rcases hcase with hcase | hcase | ⟨hsane, hnew⟩
    · exact ⟨.c (.tuple #[u.val, .bool true]), ρ, H, S, nx, rfl, fun _ _ => rfl, Nat.le_refl _, SV.lt_c _, hw.ext he, h1 u hr (.inl hcase)⟩
    · exact ⟨.c (.tuple #[u.val, .bool true]), ρ, H, S, nx, rfl, fun _ _ => rfl, Nat.le_refl _, SV.lt_c _, hw.ext he, h1 u hr (.inr hcase)⟩
    · refine ⟨.c (.tuple #[u.val, .bool true]), ρ, H, S.and (newA cx.B.w0.heap.size u), nx, rfl, fun _ _ => rfl, Nat.le_refl _, SV.lt_c _, ?_, h2 u hr hsane⟩
      obtain ⟨R, φ, hwR⟩ := hw
      have hwR' := hwR.step (Step.of_ext he) (fun _ _ h => h) (fun _ _ _ _ h => h)
      refine ⟨fun b => R b ∨ (w.heap.size ≤ b ∧ b < w'.heap.size), φ, hwR'.os, hwR'.tape, hwR'.output, hwR'.size, hwR'.pin, fun b hb => hb.elim (hwR'.ro b) (fun h => h.2), ⟨S.stable (fun _ h => .inl h) (fun _ _ => rfl) hwR'.asn, ?_⟩, hwR'.key, hwR'.ent, fun p hp b hb hb' => ?_, hwR'.sep⟩
      · exact (intsA u).stable (fun b hb => ⟨.inr hb, Nat.le_trans hwR.size hb.1⟩) (fun _ _ => rfl) hnew
      · rcases hb' with hb' | hb'
        · exact hwR'.apart p hp b hb hb'
        · have := Ent.size (hwR.ent p hp) hb; omega
theorem ends_newA {B : Base} {H : Heap} {S : Asn} {nx : Nat} {w : World} {n : NodeV} {l : List IntsV} {r : Option (List Int)} (u : IntsV) (hb : ∀ R w', S.holds R w' → (baseA B.w0).holds R w') (hw0 : B.w0 = w) (hs : u.sane) (hr : r = some u.xs) :
    finK B (.tup [.c u.val, .c (.bool true)]) H (S.and (newA B.w0.heap.size u)) nx (ShapePost w n l r) := by
  subst hw0 hr
  refine fin_of fun ρ w' hw => ⟨_, true, rfl, ext_of_abs hw (fun R w' h => hb R w' h.1), rfl, fun xs h => ⟨u, rfl, by simpa using h, .inr (.inr ⟨hs, ?_⟩)⟩⟩
  obtain ⟨R, φ, hw⟩ := hw
  exact (intsA u).stable (fun b hb => ⟨hb.2, hw.ro b hb.1⟩) (fun _ _ => rfl) hw.asn.2

set_option maxRecDepth 20000 in
set_option maxHeartbeats 4000000 in
theorem shape_any (w : World) (n : NodeV) (hn : n.ok w) (at_ : Int) (sv : ShapesV) (hs : sv.ok w) (hf : Formed n sv.l.length) (hg : ∀ s ∈ sv.l, 0 < entries s.xs) :
    Calls Try.prog 43 #[nodeVal n at_ sv.val] w (ShapePost w n sv.l (shapeO n (sv.l.map (·.xs)))) := by
  by_cases h12 : n.kind = 1 ∨ n.kind = 2
  · have hsp : shapeO n (sv.l.map (·.xs)) = some n.shape.xs := by unfold shapeO; rw [if_pos h12]
    refine calls_of tab tabOk Try.func43 rfl rfl rfl [] (fun _ => ⟨none, 0⟩) [.agg [.c (.int .i64 n.kind), .c (.int .i64 n.a), .c (.int .i64 n.b), .c n.shape.val, .c (.int .i64 n.lo), .c (.int .i64 n.hi), .c (.int .i64 n.size), .c n.data.val, .c n.bias.val, .c (.int .i64 at_), .c sv.val]] [] (baseA w) 0 rfl rfl (by show 1 ≤ _; decide) (abs_base w) ?_
    (repeat' ((conv => whnf) <;> first | (show callK _ 86 _ _ _ _ _; (refine call_shape (f := 86) (n := n) (l := sv.l) (shapeO n (sv.l.map (·.xs))) Try.call86 hsp (fun ρ w' hw => own_m w' n at_ sv) ?_ ?_ ?_ <;> intros)) | (show Wp _ _ _ _ _ _ _; (refine Wp.go tabOk rfl ?_)) | (show @cmpK _ _ _; (first | refine cmp_yes (by omega) ?_ | refine cmp_no (by omega) ?_ | (refine cmp_both ?_ ?_ <;> intro _))) | (show wrapK _ _ _; (refine wrap_i64 (by omega) (by omega) ?_)) | (show leK _ _ _; (refine le_of (by first | exact Nat.le_refl _ | omega) ?_)) | (show roomK _ _ _; (refine room_of (by first | omega | (dsimp only; omega)) ?_)) | (show ltK _ _ _; (refine lt_of (by omega) ?_)) | (show _ ∧ _; (refine ⟨?_, ?_⟩)) | (show keepK _ _ _ _ _; (refine keep_of (by first | exact List.Sublist.refl _ | exact List.Sublist.cons _ (List.Sublist.refl _) | exact List.Sublist.cons _ (List.Sublist.cons _ (List.Sublist.refl _)) | exact List.Sublist.cons _ (List.Sublist.cons _ (List.Sublist.cons _ (List.Sublist.refl _)))) (by first | exact (fun _ _ h => h) | exact (fun _ _ h => h.1) | exact (fun _ _ h => h.1.1)) ?_)) | (show ownK _ _ _ _ _; (refine own_keep ?_))))
    all_goals first
      | exact ends_no (fun _ _ h => h) rfl (by assumption)
      | exact ends_old _ (fun _ _ h => h) rfl (by assumption) (by assumption)
      | exact ends_newA _ (fun _ _ h => h) rfl (by assumption) (by assumption)
  · obtain ⟨ha0, ha1⟩ := hf.a (by omega) (by omega)
    obtain ⟨i, hia⟩ := Int.eq_ofNat_of_zero_le ha0
    have hil : i < sv.l.length := by omega
    obtain ⟨s, hi⟩ : ∃ s, sv.l[i]? = some s := ⟨_, List.getElem?_eq_getElem hil⟩
    have hA : (sv.l.map (·.xs)).getD n.a.toNat [] = s.xs := by rw [hia]; simp [List.getD, hi]
    have hgs := hg s (List.mem_of_getElem? hi)
    by_cases h6 : n.kind = 6
    · obtain ⟨hb0, hb1⟩ := hf.b h6
      obtain ⟨j, hjb⟩ := Int.eq_ofNat_of_zero_le hb0
      have hjl : j < sv.l.length := by omega
      obtain ⟨t, hj⟩ : ∃ t, sv.l[j]? = some t := ⟨_, List.getElem?_eq_getElem hjl⟩
      have hB : (sv.l.map (·.xs)).getD n.b.toNat [] = t.xs := by rw [hjb]; simp [List.getD, hj]
      have hsp : shapeO n (sv.l.map (·.xs)) = if s.xs = t.xs then some s.xs else none := by
        unfold shapeO; simp only [hA, hB]; repeat (first | rw [if_pos (by omega)] | rw [if_neg (by omega)])
      refine calls_of tab tabOk Try.func43 rfl rfl rfl [] (fun _ => ⟨none, 0⟩) [.agg [.c (.int .i64 n.kind), .c (.int .i64 n.a), .c (.int .i64 n.b), .c n.shape.val, .c (.int .i64 n.lo), .c (.int .i64 n.hi), .c (.int .i64 n.size), .c n.data.val, .c n.bias.val, .c (.int .i64 at_), .c sv.val]] [] (baseA w) 0 rfl rfl (by show 1 ≤ _; decide) (abs_base w) ?_
      (repeat' ((conv => whnf) <;> first | (show callK _ 90 _ _ _ _ _; (refine call_shape (f := 90) (n := n) (l := sv.l) (shapeO n (sv.l.map (·.xs))) Try.call90 hsp (fun ρ w' hw => sum_m w' n at_ sv (holds_of_abs hw fun R h => hs.later h) i j s t hi hia hj hjb) ?_ ?_ ?_ <;> intros)) | (show Wp _ _ _ _ _ _ _; (refine Wp.go tabOk rfl ?_)) | (show @cmpK _ _ _; (first | refine cmp_yes (by omega) ?_ | refine cmp_no (by omega) ?_ | (refine cmp_both ?_ ?_ <;> intro _))) | (show wrapK _ _ _; (refine wrap_i64 (by omega) (by omega) ?_)) | (show leK _ _ _; (refine le_of (by first | exact Nat.le_refl _ | omega) ?_)) | (show roomK _ _ _; (refine room_of (by first | omega | (dsimp only; omega)) ?_)) | (show ltK _ _ _; (refine lt_of (by omega) ?_)) | (show _ ∧ _; (refine ⟨?_, ?_⟩)) | (show keepK _ _ _ _ _; (refine keep_of (by first | exact List.Sublist.refl _ | exact List.Sublist.cons _ (List.Sublist.refl _) | exact List.Sublist.cons _ (List.Sublist.cons _ (List.Sublist.refl _)) | exact List.Sublist.cons _ (List.Sublist.cons _ (List.Sublist.cons _ (List.Sublist.refl _)))) (by first | exact (fun _ _ h => h) | exact (fun _ _ h => h.1) | exact (fun _ _ h => h.1.1)) ?_)) | (show ownK _ _ _ _ _; (refine own_keep ?_))))
      all_goals first
        | exact ends_no (fun _ _ h => h) rfl (by assumption)
        | exact ends_old _ (fun _ _ h => h) rfl (by assumption) (by assumption)
        | exact ends_newA _ (fun _ _ h => h) rfl (by assumption) (by assumption)
    · refine calls_of tab tabOk Try.func43 rfl rfl rfl [] (fun _ => ⟨none, 0⟩) [.agg [.c (.int .i64 n.kind), .c (.int .i64 n.a), .c (.int .i64 n.b), .c n.shape.val, .c (.int .i64 n.lo), .c (.int .i64 n.hi), .c (.int .i64 n.size), .c n.data.val, .c n.bias.val, .c (.int .i64 at_), .c sv.val]] [] (baseA w) 0 rfl rfl (by show 1 ≤ _; decide) (abs_base w) ?_
      (repeat' ((conv => whnf) <;> first | (show callK _ 85 _ _ _ _ _; (refine call_shape (f := 85) (n := n) (l := sv.l) (shapeO n (sv.l.map (·.xs))) Try.call85 (by unfold shapeO; simp only [hA]; repeat (first | rw [if_pos (by omega)] | rw [if_neg (by omega)])) (fun ρ w' hw => same_m w' n at_ sv (holds_of_abs hw fun R h => hs.later h) i s hi hia) ?_ ?_ ?_ <;> intros)) | (show callK _ 87 _ _ _ _ _; (refine call_shape (f := 87) (n := n) (l := sv.l) (shapeO n (sv.l.map (·.xs))) Try.call87 (by unfold shapeO; simp only [hA]; repeat (first | rw [if_pos (by omega)] | rw [if_neg (by omega)])) (fun ρ w' hw => dense_m w' n (holds_of_abs hw fun R h => hn.later h) at_ sv (holds_of_abs hw fun R h => hs.later h) i s hi hia (hf.bias (by omega)).2) ?_ ?_ ?_ <;> intros)) | (show callK _ 88 _ _ _ _ _; (refine call_shape (f := 88) (n := n) (l := sv.l) (shapeO n (sv.l.map (·.xs))) Try.call88 (by unfold shapeO; simp only [hA]; repeat (first | rw [if_pos (by omega)] | rw [if_neg (by omega)])) (fun ρ w' hw => conv_m w' n (holds_of_abs hw fun R h => hn.later h) at_ sv (holds_of_abs hw fun R h => hs.later h) i s hi hia (hf.kern (by omega)) hgs) ?_ ?_ ?_ <;> intros)) | (show callK _ 89 _ _ _ _ _; (refine call_shape (f := 89) (n := n) (l := sv.l) (shapeO n (sv.l.map (·.xs))) Try.call89 (by unfold shapeO; simp only [hA]; repeat (first | rw [if_pos (by omega)] | rw [if_neg (by omega)])) (fun ρ w' hw => pool_m w' n (holds_of_abs hw fun R h => hn.later h) at_ sv (holds_of_abs hw fun R h => hs.later h) i s hi hia (hf.pool (by omega)) hgs) ?_ ?_ ?_ <;> intros)) | (show callK _ 91 _ _ _ _ _; (refine call_shape (f := 91) (n := n) (l := sv.l) (shapeO n (sv.l.map (·.xs))) Try.call91 (by unfold shapeO; simp only [hA]; repeat (first | rw [if_pos (by omega)] | rw [if_neg (by omega)])) (fun ρ w' hw => flat_m w' n (holds_of_abs hw fun R h => hn.later h) at_ sv (holds_of_abs hw fun R h => hs.later h) i s hi hia) ?_ ?_ ?_ <;> intros)) | (show Wp _ _ _ _ _ _ _; (refine Wp.go tabOk rfl ?_)) | (show @cmpK _ _ _; (first | refine cmp_yes (by omega) ?_ | refine cmp_no (by omega) ?_ | (refine cmp_both ?_ ?_ <;> intro _))) | (show wrapK _ _ _; (refine wrap_i64 (by omega) (by omega) ?_)) | (show leK _ _ _; (refine le_of (by first | exact Nat.le_refl _ | omega) ?_)) | (show roomK _ _ _; (refine room_of (by first | omega | (dsimp only; omega)) ?_)) | (show ltK _ _ _; (refine lt_of (by omega) ?_)) | (show _ ∧ _; (refine ⟨?_, ?_⟩)) | (show keepK _ _ _ _ _; (refine keep_of (by first | exact List.Sublist.refl _ | exact List.Sublist.cons _ (List.Sublist.refl _) | exact List.Sublist.cons _ (List.Sublist.cons _ (List.Sublist.refl _)) | exact List.Sublist.cons _ (List.Sublist.cons _ (List.Sublist.cons _ (List.Sublist.refl _)))) (by first | exact (fun _ _ h => h) | exact (fun _ _ h => h.1) | exact (fun _ _ h => h.1.1)) ?_)) | (show ownK _ _ _ _ _; (refine own_keep ?_))))
      all_goals first
        | exact ends_no (fun _ _ h => h) rfl (by assumption)
        | exact ends_old _ (fun _ _ h => h) rfl (by assumption) (by assumption)
        | exact ends_newA _ (fun _ _ h => h) rfl (by assumption) (by assumption)
end Go.Proofs.Ytajbngkcgbehlaa
