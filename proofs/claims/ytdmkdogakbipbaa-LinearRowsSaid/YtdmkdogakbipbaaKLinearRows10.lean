import Derived.Test.YtdmkdogakbipbaaKLinearRows9
/- MM -/
namespace Go.Proofs.Ytdmkdogakbipbaa
open Go.SX Go.RowKit
def nilV : IntsV := ⟨none, 0, []⟩
def inN (t : IntsV) : NodeV := ⟨1, 0, 0, t, 0, 0, 0, nilV, nilV⟩
def chk2 (n : NodeV) (t : IntsV) : Int × List (List Int) := check ⟨none, 0, [inN t, n], 1⟩
theorem chk2_eq (n : NodeV) (t : IntsV) (b : Option Addr) (c : Nat) : check ⟨b, c, [inN t, n], 1⟩ = chk2 n t := by unfold chk2 check; rfl
def okRows (n : NodeV) (t : IntsV) : Prop := (isLin n ∨ n.kind = 9) ∧ n.a = 0 ∧ (chk2 n t).1 = 0
instance (n : NodeV) (t : IntsV) : Decidable (okRows n t) := by unfold okRows; infer_instance
def cntR (n : NodeV) (t : IntsV) : Nat := (entries ((chk2 n t).2.getD 1 [])).toNat
def rowsR (n : NodeV) (t : IntsV) : (List (List Int) × List Int) × Int := if okRows n t then ((rowsW n t.xs (cntR n t), (List.range (cntR n t)).map (biasI n (cntR n t))), 0) else (([], []), 3)
theorem rows_in {n : NodeV} {t : IntsV} (h : okRows n t) : ∃ s, (chk2 n t).2 = [t.xs, s] ∧ entries s = cntR n t ∧ RowsIn n t.xs s (cntR n t) := by
  obtain ⟨hk, ha, hc⟩ := h
  obtain ⟨h1, h2, h3, h4, h5⟩ := check_in (g := ⟨none, 0, [inN t, n], 1⟩) hc
  obtain ⟨s0, e0, n0⟩ := h5 0 (inN t) rfl
  obtain ⟨s1, e1, n1⟩ := h5 1 n rfl
  have hs0 : s0 = t.xs := by
    have := n0.shape
    unfold shapeO at this
    rw [if_pos (.inl rfl)] at this
    exact (Option.some.inj this).symm
  have hl : (chk2 n t).2.length = 2 := h4
  have hsh : (chk2 n t).2 = [t.xs, s1] := by
    have a0 : (chk2 n t).2[0]? = some s0 := e0
    have a1 : (chk2 n t).2[1]? = some s1 := e1
    match hq : (chk2 n t).2, hl with
    | [x, y], _ =>
      rw [hq] at a0 a1
      simp at a0 a1
      rw [a0, a1, hs0]
  obtain ⟨_, _, cnt, hcnt, hp⟩ := place_in (g := ⟨none, 0, [inN t, n], 1⟩) hc (i := 1) (n := n) rfl
  have e2 : (check ⟨none, 0, [inN t, n], 1⟩).2 = [t.xs, s1] := hsh
  rw [e2, ha] at hp
  rw [e2] at hcnt
  have hc2 : cntR n t = cnt := by
    unfold cntR
    rw [hsh, hcnt]; rfl
  refine ⟨s1, hsh, by rw [hc2]; exact hcnt, by rw [hc2]; exact hp, hk, ?_⟩
  have := hp.pos t.xs List.mem_cons_self
  omega
def RowsPost (w : World) (r : (List (List Int) × List Int) × Int) : Ending → World → Prop := fun e w' => ∃ (x : ShapesV) (y : IntsV), (DiagIs r.1.1 x ∧ y.xs = r.1.2 ∧ y.sane) ∧ e = .returned (.tuple #[x.val, y.val, .int .i64 r.2]) ∧ Ext w w' ∧ (diagA x).holds (fun b => w.heap.size ≤ b ∧ b < w'.heap.size) w' ∧ (intsA y).holds (fun b => w.heap.size ≤ b ∧ b < w'.heap.size) w'
theorem rows_fail {w : World} {B : Base} {H : Heap} {S : Asn} {nx : Nat} {n : NodeV} {t : IntsV} (hno : ¬ okRows n t) (hb : ∀ R w', S.holds R w' → (baseA B.w0).holds R w') (hw0 : B.w0 = w) : finK B (.tup [.c (.slice none 0 0), .c (.slice none 0 0), .c (.int .i64 3)]) H S nx (RowsPost w (rowsR n t)) := by
  subst hw0
  rw [rowsR, if_neg hno]
  refine fin_of fun ρ w' hw => ⟨⟨none, 0, []⟩, ⟨none, 0, []⟩, ⟨⟨rfl, fun _ h => (by cases h), Nat.le_refl _⟩, rfl, ⟨fun _ h => (by cases h), Nat.le_refl _, by decide⟩⟩, rfl, ext_of_abs hw hb, ⟨⟨fun _ h => (by cases h), .inl rfl⟩, fun _ h => (by cases h)⟩, ⟨fun _ h => (by cases h), .inl rfl⟩⟩
/-- a row so far: nil, or somewhere with room -/
def RIs (p : DCell) : Prop := (p.1 = ⟨none, 0⟩ ∧ p.2 = []) ∨ ((∃ b off, p.1.base = some ⟨b, off, none⟩) ∧ p.2 ≠ [] ∧ p.2.length ≤ p.1.cap)
theorem rows_end {w : World} {B : Base} {H : Heap} {S : Asn} {nx i g j n m : Nat} {L : List DCell} {bs : List Int} {r : (List (List Int) × List Int) × Int} (hb : ∀ R w', S.holds R w' → (baseA B.w0).holds R w') (hw0 : B.w0 = w) (hL : ∀ p ∈ L, RIs p) (hf : ∀ p ∈ L, (∀ x ∈ p.2, i64 x) ∧ p.2.length ≤ 1000000) (hm : m = L.length) (hn : n = bs.length) (hbf : ∀ x ∈ bs, i64 x) (hbl : bs.length ≤ 1000000)
    (hi : (i, Ent.rows (dRows L) 1 33) ∈ H) (hg : (g, Ent.ext (grpO 3 (dGrp L))) ∈ H) (hj : (j, Ent.rows (ints bs) 1 3) ∈ H) (hr : r = ((L.map Prod.snd, bs), 0)) :
    finK B (.tup [.os i m, .os j n, .c (.int .i64 0)]) H S nx (RowsPost w r) := by
  subst hw0 hm hn hr
  refine fin_of fun ρ w' hw => ?_
  have hn1 := new_of_abs hw hb hi
  have hsh : dRows L = shRows (L.map dInt) := by simp [dRows, shRows, dRow, dInt, IntsV.val]
  rw [hsh] at hn1
  obtain ⟨base, cap, e, h1, h2⟩ : ∃ base cap, (SV.os i (shRows (L.map dInt)).length).rf ρ = .slice base (L.map dInt).length cap ∧ (L.map dInt).length ≤ cap ∧ (rowsA base 1 (shRows (L.map dInt))).holds (fun b => B.w0.heap.size ≤ b ∧ b < w'.heap.size) w' := by
    obtain ⟨base, cap, e, h1⟩ := newRows_data hn1
    obtain ⟨lc, e2, F, hF, hr, hcap, _⟩ := hn1
    rw [e2] at e
    simp only [Value.slice.injEq] at e
    obtain ⟨e3, _, e4⟩ := e
    refine ⟨base, cap, ?_, ?_, h1⟩
    · rw [e2, e3, e4, shRows_length]
    · rw [← e4]; simpa [shRows_length] using hcap
  have hlen : (shRows (L.map dInt)).length = L.length := by rw [shRows_length, List.length_map]
  rw [hlen] at e
  have hn2 := new_of_abs hw hb hj
  rw [ints_length] at hn2
  obtain ⟨y, ey, y1, y2, y3⟩ := newInts hn2 hbf hbl
  refine ⟨⟨base, cap, L.map dInt⟩, y, ⟨⟨by simp [dInt], fun u hu => ?_, h1⟩, y1, y2⟩, ?_, ext_of_abs hw hb, ⟨h2, fun u hu => ?_⟩, y3⟩
  · obtain ⟨p, hp, rfl⟩ := List.mem_map.1 hu
    rcases hL p hp with ⟨e1, e2⟩ | ⟨_, e2, e3⟩
    · exact ⟨(hf p hp).1, by simp [dInt, e2], by simp [dInt, e2]⟩
    · exact ⟨(hf p hp).1, e3, (hf p hp).2⟩
  · have : (SV.tup [.os i L.length, .os j bs.length, .c (.int .i64 0)]).rf ρ = .tuple #[(SV.os i L.length).rf ρ, (SV.os j bs.length).rf ρ, .int .i64 0] := rfl
    rw [this, e, ey, List.length_map]
    simp [ShapesV.val]
  · obtain ⟨p, hp, rfl⟩ := List.mem_map.1 hu
    rcases hL p hp with ⟨e1, e2⟩ | ⟨⟨b, off, e1⟩, e2, e3⟩
    · show (rowsA (dInt p).base 1 (ints (dInt p).xs)).holds _ w'
      have : (dInt p).xs = [] := e2
      rw [this]
      exact ⟨fun r hr => (by cases hr), .inl rfl⟩
    · have hp' : ((p.1, p.2.map (Value.int .i64)) : Cell1) ∈ dGrp L := List.mem_map.2 ⟨p, hp, rfl⟩
      obtain ⟨g1, g2, g3⟩ := grp_new hw hb hg hp' e1
      refine ⟨ints_row, .inr ⟨b, off, e1, ⟨g1, g2⟩, fun k r hk j v hj => ?_⟩⟩
      have hkl : k < p.2.length := by
        have := (List.getElem?_eq_some_iff.1 hk).1
        rwa [ints_length] at this
      have hk' : (ints p.2)[k]? = some r := hk
      rw [ints_get hkl] at hk'
      obtain rfl : [Value.int .i64 p.2[k]] = r := by simpa using hk'
      have hj0 : j = 0 := by
        rcases Nat.eq_zero_or_pos j with h | h
        · exact h
        · rw [List.getElem?_eq_none (by show 1 ≤ j; exact h)] at hj; cases hj
      subst hj0
      have := g3 k (Value.int .i64 p.2[k]) (by simp [hkl])
      obtain rfl : Value.int .i64 p.2[k] = v := by simpa using hj
      simpa using this
end Go.Proofs.Ytdmkdogakbipbaa

/- MN -/
namespace Go.Proofs.Ytdmkdogakbipbaa
open Go.SX Go.RowKit
theorem g2_ok {l1 : SX.Loc} {R : Nat → Prop} {w : World} {n : NodeV} {t : IntsV} (hn : n.ok w) (hsm : n.small) (ht : t.ok w) (h : ((rowsA l1.base 9 (nodeRows [inN t, n])).past 0).holds R w) : (⟨l1.base, l1.cap, [inN t, n], 1⟩ : GraphV).ok w := by
  have z : i64 0 := ⟨by decide, by decide⟩
  have nv : nilV.ok w := ⟨.inl rfl, fun _ h => (by cases h), Nat.le_refl _, by decide⟩
  refine ⟨rowsA_in h, fun m hm => ?_, fun m hm => ?_, (show 2 ≤ 1000000 by decide), (show i64 1 from ⟨by decide, by decide⟩)⟩
  · rcases List.mem_cons.1 hm with rfl | hm
    · exact ⟨ht, nv, nv, (show i64 1 from ⟨by decide, by decide⟩), z, z, z, z, z⟩
    · rw [List.mem_singleton.1 hm]; exact hn
  · rcases List.mem_cons.1 hm with rfl | hm
    · exact ⟨Nat.zero_le _, Nat.zero_le _⟩
    · rw [List.mem_singleton.1 hm]; exact hsm
theorem call_check3 {cx : Cx} {f : FuncId} {args : List SV} {H : Heap} {S : Asn} {nx : Nat} {K : SV → Heap → Asn → Nat → Prop} (r : Int × List (List Int)) (hf : ∀ ar w, (callFunc f ar).run cx.P w = .ok (.enter f ar) w)
    (hc : ∀ ρ w', Abs cx.B ρ nx H S w' → Calls cx.P f (SV.rfs ρ args).toArray w' (CheckPost w' r))
    (h0 : r.1 ≠ 0 → K (.c (.tuple #[.slice none 0 0, .int .i64 r.1])) H S nx)
    (h1 : r.1 = 0 → ∀ sv : ShapesV, sv.l.map (·.xs) = r.2 → (∀ u ∈ sv.l, u.sane) → (0 < sv.l.length → ∃ a, sv.base = some a) → K (.c (.tuple #[sv.val, .int .i64 0])) H (S.and ((shapesD sv).past cx.B.w0.heap.size)) nx) : callK cx f args H S nx K := by
  rw [callK_def]
  refine ⟨hf, fun ρ w hw => (hc ρ w hw).mono ?_⟩
  rintro e w' ⟨v, rfl, he, hbad, hgood⟩
  by_cases hr : r.1 = 0
  · obtain ⟨sv, rfl, hm, hs, hd, hcap⟩ := hgood hr
    rw [hr]
    exact ⟨.c (.tuple #[sv.val, .int .i64 0]), ρ, H, _, nx, rfl, fun _ _ => rfl, Nat.le_refl _, SV.lt_c _, hw.grow he hd, h1 hr sv hm hs (fun h0 => base_some (j := 0) (rowsA_in hd.1) (by rw [shRows_length]; exact h0))⟩
  · rw [hbad hr]
    exact ⟨.c (.tuple #[.slice none 0 0, .int .i64 r.1]), ρ, H, S, nx, rfl, fun _ _ => rfl, Nat.le_refl _, SV.lt_c _, hw.ext he, h0 hr⟩
set_option maxRecDepth 20000 in
set_option maxHeartbeats 8000000 in
theorem rowsLin_no (w : World) (n : NodeV) (t : IntsV) (hn : n.ok w) (hsm : n.small) (ht : t.ok w) (hno : ¬ okRows n t) : Calls Try.prog 35 #[n.valA, t.val] w (RowsPost w (rowsR n t)) := by
  by_cases hk : isLin n ∨ n.kind = 9
  · have hkk := hk
    unfold isLin at hk
    refine calls_of tab tabOk Try.func35 rfl rfl rfl [] (fun _ => ⟨none, 0⟩) [.agg [.c (.int .i64 n.kind), .c (.int .i64 n.a), .c (.int .i64 n.b), .c n.shape.val, .c (.int .i64 n.lo), .c (.int .i64 n.hi), .c (.int .i64 n.size), .c n.data.val, .c n.bias.val], .c t.val] [] (baseA w) 0 rfl rfl (by show 2 ≤ _; decide) (abs_base w) ?_
    (repeat' ((conv => whnf) <;> first | (show drawK _ 14 _ _ _ _ _ _; (refine draw_tree tabOk mixed [] _ (.take 0 (.take 2 (.alt 1 (.take 4 (.one 3 (.take 5 (.done)))) (.one 3 (.one 1 (.take 4 (.take 5 (.done)))))))) (by kernel_rfl) (by kernel_rfl) (by kernel_rfl) (List.Sublist.refl _) ?_)) | (show drawK _ 22 _ _ _ _ _ _; (refine draw_tree tabOk mixed [13] _ (.take 0 (.take 1 (.take 2 (.take 3 (.take 4 (.take 5 (.take 6 (.take 7 (.take 8 (.one 9 (.one 10 (.one 11 (.take 12 (.one 13 (.done))))))))))))))) (by kernel_rfl) (by kernel_rfl) (by kernel_rfl) (List.Sublist.refl _) ?_)) | (show Wp _ _ _ _ _ _ _; (refine Wp.go tabOk rfl ?_)) | (show @cmpK _ _ _; (first | refine cmp_yes (by omega) ?_ | refine cmp_no (by omega) ?_ | (refine cmp_both ?_ ?_ <;> intro _))) | (show wrapK _ _ _; (refine wrap_i64 (by omega) (by omega) ?_)) | (show leK _ _ _; (refine le_of (by first | exact Nat.le_refl _ | omega) ?_)) | (show roomK _ _ _; (refine room_of (by first | omega | (dsimp only; omega)) ?_)) | (show ltK _ _ _; (refine lt_of (by omega) ?_)) | (show _ ∧ _; (refine ⟨?_, ?_⟩)) | (show keepK _ _ _ _ _; (refine keep_of (by first | exact List.Sublist.refl _ | exact List.Sublist.cons _ (List.Sublist.refl _) | exact List.Sublist.cons _ (List.Sublist.cons _ (List.Sublist.refl _)) | exact List.Sublist.cons _ (List.Sublist.cons _ (List.Sublist.cons _ (List.Sublist.refl _)))) (by first | exact (fun _ _ h => h) | exact (fun _ _ h => h.1) | exact (fun _ _ h => h.1.1)) ?_)) | (show apK _ _; (refine ap_old ?_))))
    all_goals first | (exfalso; omega) | skip
    all_goals
      (repeat' ((conv => whnf) <;> first | (show drawK _ 14 _ _ _ _ _ _; (refine draw_tree tabOk mixed [] _ (.take 0 (.take 2 (.alt 1 (.take 4 (.one 3 (.take 5 (.done)))) (.one 3 (.one 1 (.take 4 (.take 5 (.done)))))))) (by kernel_rfl) (by kernel_rfl) (by kernel_rfl) (List.Sublist.refl _) ?_)) | (show drawK _ 22 _ _ _ _ _ _; (refine draw_tree tabOk mixed [13] _ (.take 0 (.take 1 (.take 2 (.take 3 (.take 4 (.take 5 (.take 6 (.take 7 (.take 8 (.one 9 (.one 10 (.one 11 (.take 12 (.one 13 (.done))))))))))))))) (by kernel_rfl) (by kernel_rfl) (by kernel_rfl) (List.Sublist.refl _) ?_)) | (show Wp _ _ _ _ _ _ _; (refine Wp.go tabOk rfl ?_)) | (show @cmpK _ _ _; (first | refine cmp_yes (by omega) ?_ | refine cmp_no (by omega) ?_ | (refine cmp_both ?_ ?_ <;> intro _))) | (show wrapK _ _ _; (refine wrap_i64 (by omega) (by omega) ?_)) | (show leK _ _ _; (refine le_of (by first | exact Nat.le_refl _ | omega) ?_)) | (show roomK _ _ _; (refine room_of (by first | omega | (dsimp only; omega)) ?_)) | (show ltK _ _ _; (refine lt_of (by omega) ?_)) | (show _ ∧ _; (refine ⟨?_, ?_⟩)) | (show keepK _ _ _ _ _; (refine keep_of (by first | exact List.Sublist.refl _ | exact List.Sublist.cons _ (List.Sublist.refl _) | exact List.Sublist.cons _ (List.Sublist.cons _ (List.Sublist.refl _)) | exact List.Sublist.cons _ (List.Sublist.cons _ (List.Sublist.cons _ (List.Sublist.refl _)))) (by first | exact (fun _ _ h => h) | exact (fun _ _ h => h.1) | exact (fun _ _ h => h.1.1)) ?_)) | (show apK _ _; (refine ap_old ?_))))
      refine own_freeze 0 (fun _ _ _ _ hb => absurd hb (Nat.not_lt_zero _)) (fun l1 hl1 => ?_)
      (repeat' ((conv => whnf) <;> first | (show callK _ 43 _ _ _ _ _; (refine call_check (f := 43) (chk2 n t) Try.call43 (fun ρ w' hw => by have := check_any w' ⟨l1.base, l1.cap, [inN t, n], 1⟩ (holds_of_abs hw fun R h => g2_ok (hn.later h.1) hsm (ht.later h.1) h.2); rw [chk2_eq] at this; exact this) (fun hne => ?_) (fun he sv hm hsv => ?_))) | (show @cmpK _ _ _; (first | refine cmp_yes (by omega) ?_ | refine cmp_no (fun h => h rfl) ?_ | refine cmp_yes (fun h => hno ⟨hkk, h, he⟩) ?_)) | (show drawK _ 14 _ _ _ _ _ _; (refine draw_tree tabOk mixed [] _ (.take 0 (.take 2 (.alt 1 (.take 4 (.one 3 (.take 5 (.done)))) (.one 3 (.one 1 (.take 4 (.take 5 (.done)))))))) (by kernel_rfl) (by kernel_rfl) (by kernel_rfl) (List.Sublist.refl _) ?_)) | (show drawK _ 22 _ _ _ _ _ _; (refine draw_tree tabOk mixed [13] _ (.take 0 (.take 1 (.take 2 (.take 3 (.take 4 (.take 5 (.take 6 (.take 7 (.take 8 (.one 9 (.one 10 (.one 11 (.take 12 (.one 13 (.done))))))))))))))) (by kernel_rfl) (by kernel_rfl) (by kernel_rfl) (List.Sublist.refl _) ?_)) | (show Wp _ _ _ _ _ _ _; (refine Wp.go tabOk rfl ?_)) | (show @cmpK _ _ _; (first | refine cmp_yes (by omega) ?_ | refine cmp_no (by omega) ?_ | (refine cmp_both ?_ ?_ <;> intro _))) | (show wrapK _ _ _; (refine wrap_i64 (by omega) (by omega) ?_)) | (show leK _ _ _; (refine le_of (by first | exact Nat.le_refl _ | omega) ?_)) | (show roomK _ _ _; (refine room_of (by first | omega | (dsimp only; omega)) ?_)) | (show ltK _ _ _; (refine lt_of (by omega) ?_)) | (show _ ∧ _; (refine ⟨?_, ?_⟩)) | (show keepK _ _ _ _ _; (refine keep_of (by first | exact List.Sublist.refl _ | exact List.Sublist.cons _ (List.Sublist.refl _) | exact List.Sublist.cons _ (List.Sublist.cons _ (List.Sublist.refl _)) | exact List.Sublist.cons _ (List.Sublist.cons _ (List.Sublist.cons _ (List.Sublist.refl _)))) (by first | exact (fun _ _ h => h) | exact (fun _ _ h => h.1) | exact (fun _ _ h => h.1.1)) ?_)) | (show apK _ _; (refine ap_old ?_))))
      all_goals (conv => whnf)
      all_goals first | exact rows_fail hno (fun _ _ h => h.1) rfl | exact rows_fail hno (fun _ _ h => h.1.1) rfl
  · have hk' : n.kind ≠ 3 ∧ n.kind ≠ 4 ∧ n.kind ≠ 5 ∧ n.kind ≠ 9 := ⟨fun g => hk (.inl (.inl g)), fun g => hk (.inl (.inr (.inl g))), fun g => hk (.inl (.inr (.inr g))), fun g => hk (.inr g)⟩
    refine calls_of tab tabOk Try.func35 rfl rfl rfl [] (fun _ => ⟨none, 0⟩) [.agg [.c (.int .i64 n.kind), .c (.int .i64 n.a), .c (.int .i64 n.b), .c n.shape.val, .c (.int .i64 n.lo), .c (.int .i64 n.hi), .c (.int .i64 n.size), .c n.data.val, .c n.bias.val], .c t.val] [] (baseA w) 0 rfl rfl (by show 2 ≤ _; decide) (abs_base w) ?_
    (repeat' ((conv => whnf) <;> first | (show drawK _ 14 _ _ _ _ _ _; (refine draw_tree tabOk mixed [] _ (.take 0 (.take 2 (.alt 1 (.take 4 (.one 3 (.take 5 (.done)))) (.one 3 (.one 1 (.take 4 (.take 5 (.done)))))))) (by kernel_rfl) (by kernel_rfl) (by kernel_rfl) (List.Sublist.refl _) ?_)) | (show drawK _ 22 _ _ _ _ _ _; (refine draw_tree tabOk mixed [13] _ (.take 0 (.take 1 (.take 2 (.take 3 (.take 4 (.take 5 (.take 6 (.take 7 (.take 8 (.one 9 (.one 10 (.one 11 (.take 12 (.one 13 (.done))))))))))))))) (by kernel_rfl) (by kernel_rfl) (by kernel_rfl) (List.Sublist.refl _) ?_)) | (show Wp _ _ _ _ _ _ _; (refine Wp.go tabOk rfl ?_)) | (show @cmpK _ _ _; (first | refine cmp_yes (by omega) ?_ | refine cmp_no (by omega) ?_ | (refine cmp_both ?_ ?_ <;> intro _))) | (show wrapK _ _ _; (refine wrap_i64 (by omega) (by omega) ?_)) | (show leK _ _ _; (refine le_of (by first | exact Nat.le_refl _ | omega) ?_)) | (show roomK _ _ _; (refine room_of (by first | omega | (dsimp only; omega)) ?_)) | (show ltK _ _ _; (refine lt_of (by omega) ?_)) | (show _ ∧ _; (refine ⟨?_, ?_⟩)) | (show keepK _ _ _ _ _; (refine keep_of (by first | exact List.Sublist.refl _ | exact List.Sublist.cons _ (List.Sublist.refl _) | exact List.Sublist.cons _ (List.Sublist.cons _ (List.Sublist.refl _)) | exact List.Sublist.cons _ (List.Sublist.cons _ (List.Sublist.cons _ (List.Sublist.refl _)))) (by first | exact (fun _ _ h => h) | exact (fun _ _ h => h.1) | exact (fun _ _ h => h.1.1)) ?_)) | (show apK _ _; (refine ap_old ?_))))
    all_goals (conv => whnf)
    all_goals first | (exfalso; omega) | exact rows_fail hno (fun _ _ h => h) rfl
end Go.Proofs.Ytdmkdogakbipbaa

/- MO -/
namespace Go.Proofs.Ytdmkdogakbipbaa
open Go.SX Go.RowKit
theorem ints_storeM {r : List Int} {k : Nat} {v : Int} {K : List (List Value) → Prop} (hk : k < r.length) (h : K (ints (r.set k v))) : rowStoreK (ints r) k 0 [.int .i64 v] K := by
  refine rowStore_of _ (ints_get hk) (by show 0 + 1 ≤ 1; omega) ?_
  have e : (ints r).set k (setFrom [Value.int .i64 r[k]] 0 [.int .i64 v]) = ints (r.set k v) := by
    have e2 : setFrom [Value.int .i64 r[k]] 0 [.int .i64 v] = [Value.int .i64 v] := rfl
    rw [e2]
    simp [ints, List.map_set]
  rw [e]; exact h
def wgtR (n : NodeV) (t : List Int) (o i : Nat) : Int := if n.kind = 9 then wgt9 o i else wgtI n t o i
theorem rowW_length (n : NodeV) (t : List Int) (o : Nat) : (rowW n t o).length = (entries t).toNat := by simp [rowW]
theorem rowW_take {n : NodeV} {t : List Int} {o i : Nat} (h : i < (entries t).toNat) : (rowW n t o).take (i + 1) = (rowW n t o).take i ++ [wgtR n t o i] := by
  rw [List.take_succ_eq_append_getElem (by rw [rowW_length]; exact h)]
  simp [rowW, wgtR]
theorem getD_i64 {l : List Int} (h : ∀ x ∈ l, i64 x) (k : Nat) : i64 (l.getD k 0) := by
  rcases Nat.lt_or_ge k l.length with g | g
  · have e : l.getD k 0 = l[k] := by simp [List.getD, g]
    rw [e]; exact h _ (List.getElem_mem g)
  · have e : l.getD k 0 = 0 := by simp [List.getD, g]
    rw [e]; exact ⟨by decide, by decide⟩
theorem wgtR_i64 {n : NodeV} (hd : ∀ x ∈ n.data.xs, i64 x) (t : List Int) (o i : Nat) : i64 (wgtR n t o i) := by
  have z : i64 0 := ⟨by decide, by decide⟩
  have one : i64 1 := ⟨by decide, by decide⟩
  unfold wgtR wgt9 wgtI
  split
  · split <;> assumption
  · split
    · exact getD_i64 hd _
    · split
      · simp only
        split
        · exact z
        · exact getD_i64 hd _
      · split <;> assumption
theorem biasI_i64 {n : NodeV} (hb : ∀ x ∈ n.bias.xs, i64 x) (cnt o : Nat) : i64 (biasI n cnt o) := by
  unfold biasI
  split
  · exact getD_i64 hb _
  · split
    · exact getD_i64 hb _
    · exact ⟨by decide, by decide⟩
structure RowsPre (n : NodeV) (t : List Int) (cnt o i : Nat) (L : List DCell) : Prop where
  len : L.length = cnt
  each : ∀ p ∈ L, RIs p
  fits : ∀ p ∈ L, (∀ x ∈ p.2, i64 x) ∧ p.2.length ≤ 1000000
  is : ∀ k, k < cnt → (L.map Prod.snd).getD k [] = if k < o then rowW n t k else if k = o then (rowW n t o).take i else []
theorem RowsPre.start (n : NodeV) (t : List Int) (cnt : Nat) : RowsPre n t cnt 0 0 (nilD cnt) := ⟨by simp [nilD], fun p hp => .inl (by rw [(List.mem_replicate.1 hp).2]; exact ⟨rfl, rfl⟩), fun p hp => by rw [(List.mem_replicate.1 hp).2]; exact ⟨fun x hx => (by cases hx), Nat.zero_le _⟩, fun k hk => by
  rw [nilD_snd]
  simp only [List.getD, List.getElem?_replicate]
  simp [hk]⟩
theorem RowsPre.next {n : NodeV} {t : List Int} {cnt o : Nat} {L : List DCell} (h : RowsPre n t cnt o (entries t).toNat L) : RowsPre n t cnt (o + 1) 0 L := ⟨h.len, h.each, h.fits, fun k hk => by
  rw [h.is k hk]
  by_cases g : k < o
  · rw [if_pos g, if_pos (by omega)]
  · rw [if_neg g]
    by_cases g2 : k = o
    · rw [if_pos g2, if_pos (by omega), g2, List.take_of_length_le (by rw [rowW_length]; exact Nat.le_refl _)]
    · rw [if_neg g2, if_neg (by omega)]; simp⟩
theorem RowsPre.push {n : NodeV} {t : List Int} {cnt o i : Nat} {L : List DCell} {q : DCell} {l' : SX.Loc} (h : RowsPre n t cnt o i L) (hd : ∀ x ∈ n.data.xs, i64 x) (hi : i < (entries t).toNat) (hi64 : i ≤ 64) (hq : L[o]? = some q) (hl : ∃ b off, l'.base = some ⟨b, off, none⟩) (hcap : q.2.length + 1 ≤ l'.cap) : RowsPre n t cnt o (i + 1) (L.set o (l', q.2 ++ [wgtR n t o i])) := by
  have ho : o < L.length := (List.getElem?_eq_some_iff.1 hq).1
  have hq2 : q.2 = (rowW n t o).take i := by
    have := h.is o (by rw [← h.len]; exact ho)
    rw [snd_getD hq, if_neg (Nat.lt_irrefl o), if_pos rfl] at this
    exact this
  have hql : q.2.length = i := by rw [hq2, List.length_take, rowW_length]; omega
  refine ⟨by rw [List.length_set]; exact h.len, fun p hp => ?_, fun p hp => ?_, fun k hk => ?_⟩
  · rcases List.mem_or_eq_of_mem_set hp with hp | hp
    · exact h.each p hp
    · rw [hp]; exact .inr ⟨hl, by simp, by simpa using hcap⟩
  · rcases List.mem_or_eq_of_mem_set hp with hp | hp
    · exact h.fits p hp
    · rw [hp]
      refine ⟨fun x hx => ?_, by simp; omega⟩
      rcases List.mem_append.1 hx with hx | hx
      · exact (h.fits q (List.mem_of_getElem? hq)).1 x hx
      · rw [List.mem_singleton.1 hx]; exact wgtR_i64 hd t o i
  · rw [List.map_set]
    by_cases e : o = k
    · subst e
      rw [if_neg (Nat.lt_irrefl o), if_pos rfl, rowW_take hi, ← hq2]
      simp [List.getD, ho]
    · have := h.is k hk
      have e2 : ((L.map Prod.snd).set o (l', q.2 ++ [wgtR n t o i]).2).getD k [] = (L.map Prod.snd).getD k [] := by simp [List.getD, List.getElem?_set_ne e]
      rw [e2, this]
      by_cases g : k < o
      · rw [if_pos g, if_pos g]
      · rw [if_neg g, if_neg g, if_neg (fun e' => e e'.symm), if_neg (fun e' => e e'.symm)]
structure BiasPre (n : NodeV) (cnt o : Nat) (bs : List Int) : Prop where
  len : bs.length = cnt
  is : ∀ k, k < cnt → bs.getD k 0 = if k < o then biasI n cnt k else 0
theorem BiasPre.next {n : NodeV} {cnt o : Nat} {bs : List Int} (h : BiasPre n cnt o bs) (ho : o < cnt) : BiasPre n cnt (o + 1) (bs.set o (biasI n cnt o)) := by
  refine ⟨by rw [List.length_set]; exact h.len, fun k hk => ?_⟩
  by_cases e : o = k
  · subst e
    rw [if_pos (Nat.lt_succ_self o)]
    simp [List.getD, h.len, ho]
  · have := h.is k hk
    have e2 : (bs.set o (biasI n cnt o)).getD k 0 = bs.getD k 0 := by simp [List.getD, List.getElem?_set_ne e]
    rw [e2, this]
    by_cases g : k < o
    · rw [if_pos g, if_pos (by omega)]
    · rw [if_neg g, if_neg (by omega)]
theorem BiasPre.done {n : NodeV} {cnt : Nat} {bs : List Int} (h : BiasPre n cnt cnt bs) : bs = (List.range cnt).map (biasI n cnt) := by
  apply List.ext_getElem
  · simp [h.len]
  · intro k h1 h2
    have hk : k < cnt := by rw [← h.len]; exact h1
    have := h.is k hk
    rw [if_pos hk] at this
    simp [List.getD, h1] at this
    simp [this]
theorem RowsPre.done {n : NodeV} {t : List Int} {cnt : Nat} {L : List DCell} (h : RowsPre n t cnt cnt 0 L) : L.map Prod.snd = rowsW n t cnt := by
  apply List.ext_getElem
  · simp [rowsW, h.len]
  · intro k h1 h2
    have hk : k < cnt := by rw [← h.len]; simpa using h1
    have := h.is k hk
    rw [if_pos hk] at this
    have e : (rowsW n t cnt)[k] = rowW n t k := by simp [rowsW]
    rw [e, ← this]
    simp [List.getD, h.len, hk]
set_option maxRecDepth 20000 in
set_option maxHeartbeats 8000000 in
theorem rowsLin_ok (w : World) (n : NodeV) (t : IntsV) (hn : n.ok w) (hsm : n.small) (ht : t.ok w) (hok : okRows n t) : Calls Try.prog 35 #[n.valA, t.val] w (RowsPost w (rowsR n t)) := by
  obtain ⟨s, hsh, hcs, hR⟩ := rows_in hok
  have hcnt := hR.place.few
  have hsz := hR.size
  have heb := (entries_bd t.xs).2
  rw [rowsR, if_pos hok]
  obtain ⟨cnt, hce⟩ : ∃ c, cntR n t = c := ⟨_, rfl⟩
  rw [hce] at hcs hR hcnt ⊢
  obtain ⟨E, hE⟩ : ∃ E : Nat, entries t.xs = E := ⟨(entries t.xs).toNat, by omega⟩
  have ha := hok.2.1
  have hk := hok.1
  have hkk := hk
  unfold isLin at hk
  refine calls_of tab tabOk Try.func35 rfl rfl rfl [] (fun _ => ⟨none, 0⟩) [.agg [.c (.int .i64 n.kind), .c (.int .i64 n.a), .c (.int .i64 n.b), .c n.shape.val, .c (.int .i64 n.lo), .c (.int .i64 n.hi), .c (.int .i64 n.size), .c n.data.val, .c n.bias.val], .c t.val] [] (baseA w) 0 rfl rfl (by show 2 ≤ _; decide) (abs_base w) ?_
  (repeat' ((conv => whnf) <;> first | (show drawK _ 14 _ _ _ _ _ _; (refine draw_tree tabOk mixed [] _ (.take 0 (.take 2 (.alt 1 (.take 4 (.one 3 (.take 5 (.done)))) (.one 3 (.one 1 (.take 4 (.take 5 (.done)))))))) (by kernel_rfl) (by kernel_rfl) (by kernel_rfl) (List.Sublist.refl _) ?_)) | (show drawK _ 22 _ _ _ _ _ _; (refine draw_tree tabOk mixed [13] _ (.take 0 (.take 1 (.take 2 (.take 3 (.take 4 (.take 5 (.take 6 (.take 7 (.take 8 (.one 9 (.one 10 (.one 11 (.take 12 (.one 13 (.done))))))))))))))) (by kernel_rfl) (by kernel_rfl) (by kernel_rfl) (List.Sublist.refl _) ?_)) | (show Wp _ _ _ _ _ _ _; (refine Wp.go tabOk rfl ?_)) | (show @cmpK _ _ _; (first | refine cmp_yes (by omega) ?_ | refine cmp_no (by omega) ?_ | (refine cmp_both ?_ ?_ <;> intro _))) | (show wrapK _ _ _; (refine wrap_i64 (by omega) (by omega) ?_)) | (show leK _ _ _; (refine le_of (by first | exact Nat.le_refl _ | omega) ?_)) | (show roomK _ _ _; (refine room_of (by first | omega | (dsimp only; omega)) ?_)) | (show ltK _ _ _; (refine lt_of (by omega) ?_)) | (show _ ∧ _; (refine ⟨?_, ?_⟩)) | (show keepK _ _ _ _ _; (refine keep_of (by first | exact List.Sublist.refl _ | exact List.Sublist.cons _ (List.Sublist.refl _) | exact List.Sublist.cons _ (List.Sublist.cons _ (List.Sublist.refl _)) | exact List.Sublist.cons _ (List.Sublist.cons _ (List.Sublist.cons _ (List.Sublist.refl _)))) (by first | exact (fun _ _ h => h) | exact (fun _ _ h => h.1) | exact (fun _ _ h => h.1.1)) ?_)) | (show apK _ _; (refine ap_old ?_))))
  all_goals first | (exfalso; omega) | skip
  all_goals
    (repeat' ((conv => whnf) <;> first | (show drawK _ 14 _ _ _ _ _ _; (refine draw_tree tabOk mixed [] _ (.take 0 (.take 2 (.alt 1 (.take 4 (.one 3 (.take 5 (.done)))) (.one 3 (.one 1 (.take 4 (.take 5 (.done)))))))) (by kernel_rfl) (by kernel_rfl) (by kernel_rfl) (List.Sublist.refl _) ?_)) | (show drawK _ 22 _ _ _ _ _ _; (refine draw_tree tabOk mixed [13] _ (.take 0 (.take 1 (.take 2 (.take 3 (.take 4 (.take 5 (.take 6 (.take 7 (.take 8 (.one 9 (.one 10 (.one 11 (.take 12 (.one 13 (.done))))))))))))))) (by kernel_rfl) (by kernel_rfl) (by kernel_rfl) (List.Sublist.refl _) ?_)) | (show Wp _ _ _ _ _ _ _; (refine Wp.go tabOk rfl ?_)) | (show @cmpK _ _ _; (first | refine cmp_yes (by omega) ?_ | refine cmp_no (by omega) ?_ | (refine cmp_both ?_ ?_ <;> intro _))) | (show wrapK _ _ _; (refine wrap_i64 (by omega) (by omega) ?_)) | (show leK _ _ _; (refine le_of (by first | exact Nat.le_refl _ | omega) ?_)) | (show roomK _ _ _; (refine room_of (by first | omega | (dsimp only; omega)) ?_)) | (show ltK _ _ _; (refine lt_of (by omega) ?_)) | (show _ ∧ _; (refine ⟨?_, ?_⟩)) | (show keepK _ _ _ _ _; (refine keep_of (by first | exact List.Sublist.refl _ | exact List.Sublist.cons _ (List.Sublist.refl _) | exact List.Sublist.cons _ (List.Sublist.cons _ (List.Sublist.refl _)) | exact List.Sublist.cons _ (List.Sublist.cons _ (List.Sublist.cons _ (List.Sublist.refl _)))) (by first | exact (fun _ _ h => h) | exact (fun _ _ h => h.1) | exact (fun _ _ h => h.1.1)) ?_)) | (show apK _ _; (refine ap_old ?_))))
    refine own_freeze 0 (fun _ _ _ _ hb => absurd hb (Nat.not_lt_zero _)) (fun l1 hl1 => ?_)
    (repeat' ((conv => whnf) <;> first | (show callK _ 43 _ _ _ _ _; (refine call_check3 (f := 43) (chk2 n t) Try.call43 (fun ρ w' hw => by have := check_any w' ⟨l1.base, l1.cap, [inN t, n], 1⟩ (holds_of_abs hw fun R h => g2_ok (hn.later h.1) hsm (ht.later h.1) h.2); rw [chk2_eq] at this; exact this) (fun hne => absurd hok.2.2 hne) (fun he sv hm hsv hsb => ?_))) | (show @cmpK _ _ _; (first | refine cmp_yes (by omega) ?_ | refine cmp_no (fun h => h rfl) ?_ | refine cmp_no (fun h => h ha) ?_)) | (show drawK _ 14 _ _ _ _ _ _; (refine draw_tree tabOk mixed [] _ (.take 0 (.take 2 (.alt 1 (.take 4 (.one 3 (.take 5 (.done)))) (.one 3 (.one 1 (.take 4 (.take 5 (.done)))))))) (by kernel_rfl) (by kernel_rfl) (by kernel_rfl) (List.Sublist.refl _) ?_)) | (show drawK _ 22 _ _ _ _ _ _; (refine draw_tree tabOk mixed [13] _ (.take 0 (.take 1 (.take 2 (.take 3 (.take 4 (.take 5 (.take 6 (.take 7 (.take 8 (.one 9 (.one 10 (.one 11 (.take 12 (.one 13 (.done))))))))))))))) (by kernel_rfl) (by kernel_rfl) (by kernel_rfl) (List.Sublist.refl _) ?_)) | (show Wp _ _ _ _ _ _ _; (refine Wp.go tabOk rfl ?_)) | (show @cmpK _ _ _; (first | refine cmp_yes (by omega) ?_ | refine cmp_no (by omega) ?_ | (refine cmp_both ?_ ?_ <;> intro _))) | (show wrapK _ _ _; (refine wrap_i64 (by omega) (by omega) ?_)) | (show leK _ _ _; (refine le_of (by first | exact Nat.le_refl _ | omega) ?_)) | (show roomK _ _ _; (refine room_of (by first | omega | (dsimp only; omega)) ?_)) | (show ltK _ _ _; (refine lt_of (by omega) ?_)) | (show _ ∧ _; (refine ⟨?_, ?_⟩)) | (show keepK _ _ _ _ _; (refine keep_of (by first | exact List.Sublist.refl _ | exact List.Sublist.cons _ (List.Sublist.refl _) | exact List.Sublist.cons _ (List.Sublist.cons _ (List.Sublist.refl _)) | exact List.Sublist.cons _ (List.Sublist.cons _ (List.Sublist.cons _ (List.Sublist.refl _)))) (by first | exact (fun _ _ h => h) | exact (fun _ _ h => h.1) | exact (fun _ _ h => h.1.1)) ?_)) | (show apK _ _; (refine ap_old ?_))))
    rw [hsh] at hm
    obtain ⟨vb, vc, vl⟩ := sv
    obtain ⟨u0, u1, rfl, hu0, hu1⟩ : ∃ u v, vl = [u, v] ∧ u.xs = t.xs ∧ v.xs = s := by
      have h2 : vl.length = 2 := by have := congrArg List.length hm; simpa using this
      match vl, h2, hm with
      | [u, v], _, h => exact ⟨u, v, rfl, by simpa using (List.cons.inj h).1, by simpa using (List.cons.inj (List.cons.inj h).2).1⟩
    obtain ⟨va, rfl⟩ : ∃ a, vb = some a := hsb (show 0 < 2 by decide)
    (repeat' ((conv => whnf) <;> first | (show idxK _ _ _ _ _; (refine idx_of va 1 rfl rfl (show 1 < 2 by decide) ?_)) | (show roK _ _ _; (refine ro_row0 (fun R w' h => rowsA_in h.2.1) [u1.val] u1.val rfl rfl ?_)) | (show callK _ 59 _ _ _ _ _; (refine call_pure (f := 59) Try.call59 (.int .i64 (cnt : Nat)) (fun ρ w' hw => by have := entries_any w' u1.base u1.cap u1.xs (holds_of_abs hw fun R h => rowsA_in (h.2.2 u1 (by repeat (first | exact List.mem_cons_self | apply List.mem_cons_of_mem)))); rw [show entries u1.xs = (cnt : Int) by rw [hu1]; exact hcs] at this; exact this) ?_)) | (show makeK _ _ _ _; (first | refine make_of cnt rfl rfl (by show 24 * _ ≤ _; omega) (by omega) ?_ | refine make_of cnt rfl rfl (by show 8 * _ ≤ _; omega) (by omega) ?_)) | (show drawK _ 14 _ _ _ _ _ _; (refine draw_tree tabOk mixed [] _ (.take 0 (.take 2 (.alt 1 (.take 4 (.one 3 (.take 5 (.done)))) (.one 3 (.one 1 (.take 4 (.take 5 (.done)))))))) (by kernel_rfl) (by kernel_rfl) (by kernel_rfl) (List.Sublist.refl _) ?_)) | (show drawK _ 22 _ _ _ _ _ _; (refine draw_tree tabOk mixed [13] _ (.take 0 (.take 1 (.take 2 (.take 3 (.take 4 (.take 5 (.take 6 (.take 7 (.take 8 (.one 9 (.one 10 (.one 11 (.take 12 (.one 13 (.done))))))))))))))) (by kernel_rfl) (by kernel_rfl) (by kernel_rfl) (List.Sublist.refl _) ?_)) | (show Wp _ _ _ _ _ _ _; (refine Wp.go tabOk rfl ?_)) | (show @cmpK _ _ _; (first | refine cmp_yes (by omega) ?_ | refine cmp_no (by omega) ?_ | (refine cmp_both ?_ ?_ <;> intro _))) | (show wrapK _ _ _; (refine wrap_i64 (by omega) (by omega) ?_)) | (show leK _ _ _; (refine le_of (by first | exact Nat.le_refl _ | omega) ?_)) | (show roomK _ _ _; (refine room_of (by first | omega | (dsimp only; omega)) ?_)) | (show ltK _ _ _; (refine lt_of (by omega) ?_)) | (show _ ∧ _; (refine ⟨?_, ?_⟩)) | (show keepK _ _ _ _ _; (refine keep_of (by first | exact List.Sublist.refl _ | exact List.Sublist.cons _ (List.Sublist.refl _) | exact List.Sublist.cons _ (List.Sublist.cons _ (List.Sublist.refl _)) | exact List.Sublist.cons _ (List.Sublist.cons _ (List.Sublist.cons _ (List.Sublist.refl _)))) (by first | exact (fun _ _ h => h) | exact (fun _ _ h => h.1) | exact (fun _ _ h => h.1.1)) ?_)) | (show ownK _ _ _ _ _; (refine own_keep ?_)) | (show apK _ _; (refine ap_old ?_))))
    all_goals (conv => whnf)
  all_goals
    refine Wp.grp 3 cnt ?_
    first
    | refine Wp.loop (σ := Nat × List DCell × List Int) 9 (fun x => [(1, .c t.val), (10, .lp 3 0 0 0), (11, .fn (.func 64) [.agg [.c (.int .i64 n.kind), .c (.int .i64 n.a), .c (.int .i64 n.b), .c n.shape.val, .c (.int .i64 n.lo), .c (.int .i64 n.hi), .c (.int .i64 n.size), .c n.data.val, .c n.bias.val, .c t.val]] []), (12, .c (.int .i64 (cnt : Nat))), (13, .os 7 cnt), (14, .os 8 cnt), (55, .c (.int .i64 (cnt : Nat))), (56, .c (.int .i64 x.1))]) (fun x => [(3, .box [.c (.int .i64 n.kind), .c (.int .i64 n.a), .c (.int .i64 n.b), .c n.shape.val, .c (.int .i64 n.lo), .c (.int .i64 n.hi), .c (.int .i64 n.size), .c n.data.val, .c n.bias.val, .c t.val] 96), (7, .rows (dRows x.2.1) 1 33), (6, .ext (grpO 3 (dGrp x.2.1))), (8, .rows (ints x.2.2) 1 3)]) (fun _ => baseA w)
        (fun x => x.1 ≤ cnt ∧ RowsPre n t.xs cnt x.1 0 x.2.1 ∧ BiasPre n cnt x.1 x.2.2) (fun x => cnt - x.1) (0, nilD cnt, List.replicate cnt 0) [(7, some 5), (8, some 4)] (by decide) (fun _ => ⟨rfl, rfl⟩)
        ⟨Nat.zero_le _, RowsPre.start n t.xs cnt, by simp, fun k hk => by simp only [List.getD, List.getElem?_replicate]; simp [hk]⟩ ⟨rfl, ⟨rfl, rfl, rfl, rfl, rfl, rfl, rfl, rfl, trivial⟩, ?_, fun _ _ h => h.1.1⟩ ?_
    | refine Wp.loop (σ := Nat × List DCell × List Int) 9 (fun x => [(1, .c t.val), (10, .lp 3 0 0 0), (11, .fn (.func 64) [.agg [.c (.int .i64 n.kind), .c (.int .i64 n.a), .c (.int .i64 n.b), .c n.shape.val, .c (.int .i64 n.lo), .c (.int .i64 n.hi), .c (.int .i64 n.size), .c n.data.val, .c n.bias.val, .c t.val]] []), (12, .c (.int .i64 (cnt : Nat))), (13, .os 7 cnt), (14, .os 8 cnt), (55, .c (.int .i64 (cnt : Nat))), (56, .c (.int .i64 x.1))]) (fun x => [(3, .box [.c (.int .i64 n.kind), .c (.int .i64 n.a), .c (.int .i64 n.b), .c n.shape.val, .c (.int .i64 n.lo), .c (.int .i64 n.hi), .c (.int .i64 n.size), .c n.data.val, .c n.bias.val, .c t.val] 96), (7, .rows (dRows x.2.1) 1 33), (6, .ext (grpO 3 (dGrp x.2.1))), (8, .rows (ints x.2.2) 1 3)]) (fun _ => baseA w)
        (fun x => x.1 ≤ cnt ∧ RowsPre n t.xs cnt x.1 0 x.2.1 ∧ BiasPre n cnt x.1 x.2.2) (fun x => cnt - x.1) (0, nilD cnt, List.replicate cnt 0) [(7, some 4), (8, some 5)] (by decide) (fun _ => ⟨rfl, rfl⟩)
        ⟨Nat.zero_le _, RowsPre.start n t.xs cnt, by simp, fun k hk => by simp only [List.getD, List.getElem?_replicate]; simp [hk]⟩ ⟨rfl, ⟨rfl, rfl, rfl, rfl, rfl, rfl, rfl, rfl, trivial⟩, ?_, fun _ _ h => h.1.1⟩ ?_
    · show heapInto _ _ [(3, .box [.c (.int .i64 n.kind), .c (.int .i64 n.a), .c (.int .i64 n.b), .c n.shape.val, .c (.int .i64 n.lo), .c (.int .i64 n.hi), .c (.int .i64 n.size), .c n.data.val, .c n.bias.val, .c t.val] 96), (7, .rows (dRows (nilD cnt)) 1 33), (6, .ext (grpO 3 (dGrp (nilD cnt)))), (8, .rows (ints (List.replicate cnt 0)) 1 3)]
      rw [dRows_nil, dGrp_nil, show ints (List.replicate cnt 0) = List.replicate cnt [Value.int .i64 0] by simp [ints]]
      exact ⟨(by repeat (first | exact List.mem_cons_self | apply List.mem_cons_of_mem)), (by repeat (first | exact List.mem_cons_self | apply List.mem_cons_of_mem)), (by repeat (first | exact List.mem_cons_self | apply List.mem_cons_of_mem)), (by repeat (first | exact List.mem_cons_self | apply List.mem_cons_of_mem)), trivial⟩
    rintro ⟨o, L, bs⟩ ⟨ho, hL, hB⟩
    dsimp only at ho hL hB
    by_cases hoc : o < cnt
    · have hwb : ∀ (w' : World), n.ok w' → Calls Try.prog 65 #[weigherV n t, .int .i64 o, .int .i64 cnt] w' fun e w2 => e = .returned (.int .i64 (biasI n cnt o)) ∧ Ext w' w2 := fun w' hn' => bias_of w' n t s cnt hR hn' o hoc
      (repeat' ((conv => whnf) <;> first | (show callK _ 65 _ _ _ _ _; (refine call_pure (f := 65) Try.call65 (.int .i64 (biasI n cnt o)) (fun ρ w' hw => hwb w' (holds_of_abs hw fun R h => hn.later h)) ?_)) | (show idxRowK _ _ _ _ _ _; (refine idxRow_of o rfl hoc (Nat.le_of_eq (by rw [ints_length]; exact hB.len.symm)) ?_)) | (show rowStoreK _ _ _ _ _; (refine ints_storeM (Nat.lt_of_lt_of_eq hoc hB.len.symm) ?_)) | (show callK _ 59 _ _ _ _ _; (refine call_pure (f := 59) Try.call59 (.int .i64 (E : Nat)) (fun ρ w' hw => by have := entries_any w' t.base t.cap t.xs (holds_of_abs hw fun R h => rows_base h ht.rows); rw [hE] at this; exact this) ?_)) | (show drawK _ 14 _ _ _ _ _ _; (refine draw_tree tabOk mixed [] _ (.take 0 (.take 2 (.alt 1 (.take 4 (.one 3 (.take 5 (.done)))) (.one 3 (.one 1 (.take 4 (.take 5 (.done)))))))) (by kernel_rfl) (by kernel_rfl) (by kernel_rfl) (List.Sublist.refl _) ?_)) | (show drawK _ 22 _ _ _ _ _ _; (refine draw_tree tabOk mixed [13] _ (.take 0 (.take 1 (.take 2 (.take 3 (.take 4 (.take 5 (.take 6 (.take 7 (.take 8 (.one 9 (.one 10 (.one 11 (.take 12 (.one 13 (.done))))))))))))))) (by kernel_rfl) (by kernel_rfl) (by kernel_rfl) (List.Sublist.refl _) ?_)) | (show Wp _ _ _ _ _ _ _; (refine Wp.go tabOk rfl ?_)) | (show @cmpK _ _ _; (first | refine cmp_yes (by omega) ?_ | refine cmp_no (by omega) ?_ | (refine cmp_both ?_ ?_ <;> intro _))) | (show wrapK _ _ _; (refine wrap_i64 (by omega) (by omega) ?_)) | (show leK _ _ _; (refine le_of (by first | exact Nat.le_refl _ | omega) ?_)) | (show roomK _ _ _; (refine room_of (by first | omega | (dsimp only; omega)) ?_)) | (show ltK _ _ _; (refine lt_of (by omega) ?_)) | (show _ ∧ _; (refine ⟨?_, ?_⟩)) | (show keepK _ _ _ _ _; (refine keep_of (by first | exact List.Sublist.refl _ | exact List.Sublist.cons _ (List.Sublist.refl _) | exact List.Sublist.cons _ (List.Sublist.cons _ (List.Sublist.refl _)) | exact List.Sublist.cons _ (List.Sublist.cons _ (List.Sublist.cons _ (List.Sublist.refl _)))) (by first | exact (fun _ _ h => h) | exact (fun _ _ h => h.1) | exact (fun _ _ h => h.1.1)) ?_)) | (show ownK _ _ _ _ _; (refine own_keep ?_)) | (show apK _ _; (refine ap_old ?_))))
      all_goals (conv => whnf)
      have hB' := hB.next hoc
      clear hB
      obtain ⟨bs', hbs⟩ : ∃ b, bs.set o (biasI n cnt o) = b := ⟨_, rfl⟩
      rw [hbs] at hB' ⊢
      have hEt : (entries t.xs).toNat = E := by rw [hE]; rfl
      refine Wp.loop (σ := Nat × List DCell) 9 (fun x => [(1, .c t.val), (10, .lp 3 0 0 0), (11, .fn (.func 64) [.agg [.c (.int .i64 n.kind), .c (.int .i64 n.a), .c (.int .i64 n.b), .c n.shape.val, .c (.int .i64 n.lo), .c (.int .i64 n.hi), .c (.int .i64 n.size), .c n.data.val, .c n.bias.val, .c t.val]] []), (12, .c (.int .i64 (cnt : Nat))), (13, .os 7 cnt), (14, .os 8 cnt), (55, .c (.int .i64 (cnt : Nat))), (56, .c (.int .i64 o)), (15, .c (.int .i64 o)), (67, .c (.int .i64 (E : Nat))), (68, .c (.int .i64 x.1))]) (fun x => [(3, .box [.c (.int .i64 n.kind), .c (.int .i64 n.a), .c (.int .i64 n.b), .c n.shape.val, .c (.int .i64 n.lo), .c (.int .i64 n.hi), .c (.int .i64 n.size), .c n.data.val, .c n.bias.val, .c t.val] 96), (7, .rows (dRows x.2) 1 33), (6, .ext (grpO 3 (dGrp x.2))), (8, .rows (ints bs') 1 3)]) (fun _ => baseA w)
        (fun x => x.1 ≤ E ∧ RowsPre n t.xs cnt o x.1 x.2) (fun x => E - x.1) (0, L) [] (by decide) (fun _ => ⟨rfl, rfl⟩) ⟨Nat.zero_le _, hL⟩ ⟨rfl, ⟨rfl, rfl, rfl, rfl, rfl, rfl, rfl, rfl, rfl, rfl, rfl, trivial⟩, ⟨(by repeat (first | exact List.mem_cons_self | apply List.mem_cons_of_mem)), (by repeat (first | exact List.mem_cons_self | apply List.mem_cons_of_mem)), (by repeat (first | exact List.mem_cons_self | apply List.mem_cons_of_mem)), (by repeat (first | exact List.mem_cons_self | apply List.mem_cons_of_mem)), trivial⟩, fun _ _ h => h⟩ ?_
      clear hL
      rintro ⟨i, M⟩ ⟨hi, hM⟩
      dsimp only at hi hM
      by_cases hiE : i < E
      · have hww : ∀ (w' : World), n.ok w' → t.ok w' → Calls Try.prog 64 #[weigherV n t, .int .i64 o, .int .i64 i] w' fun e w2 => e = .returned (.int .i64 (wgtR n t.xs o i)) ∧ Ext w' w2 := fun w' hn' ht' => weight_any w' n t s cnt hR hn' ht' o i hoc (by rw [hE]; omega)
        have hoM : o < M.length := by rw [hM.len]; exact hoc
        have hdl := dRows_length M
        obtain ⟨q, hq⟩ : ∃ q, M[o]? = some q := ⟨_, List.getElem?_eq_getElem hoM⟩
        have hqm := List.mem_of_getElem? hq
        have hq2 : q.2 = (rowW n t.xs o).take i := by
          have := hM.is o hoc
          rw [snd_getD hq, if_neg (Nat.lt_irrefl o), if_pos rfl] at this
          exact this
        have hql : q.2.length = i := by rw [hq2, List.length_take, rowW_length]; omega
        have hpush := fun l' => hM.push (l' := l') hn.data.fits (by rw [hEt]; exact hiE) (by omega) hq
        rcases hM.each q hqm with ⟨e1, e2⟩ | ⟨⟨b, off, e1⟩, e2, e3⟩
        · obtain ⟨ql, qv⟩ := q
          simp only at e1 e2
          subst e1 e2
          (repeat' ((conv => whnf) <;> first | (show drawK _ 22 _ _ _ _ _ _; (refine draw_tree tabOk mixed [13] _ (.take 0 (.take 1 (.take 2 (.take 3 (.take 4 (.take 5 (.take 6 (.take 7 (.take 8 (.one 9 (.one 10 (.one 11 (.take 12 (.one 13 (.done))))))))))))))) (by kernel_rfl) (by kernel_rfl) (by kernel_rfl) (List.Sublist.cons_cons _ (List.Sublist.cons_cons _ (List.Sublist.cons _ (List.Sublist.refl _)))) ?_)) | (show keepK _ _ _ _ _; (first | refine keep_of (List.Sublist.cons _ (List.Sublist.cons_cons _ (List.Sublist.cons_cons _ (List.Sublist.cons _ (List.Sublist.refl _))))) (fun _ _ h => h) ?_ | refine keep_of (List.Sublist.cons_cons _ (List.Sublist.cons_cons _ (List.Sublist.cons _ (List.Sublist.refl _)))) (fun _ _ h => h) ?_)) | (show callK _ 64 _ _ _ _ _; (refine call_pure (f := 64) Try.call64 (.int .i64 (wgtR n t.xs o i)) (fun ρ w' hw => hww w' (holds_of_abs hw fun R h => hn.later h) (holds_of_abs hw fun R h => ht.later h)) ?_)) | (show idxRowK _ _ _ _ _ _; (refine idxRow_of o rfl hoc (Nat.le_of_eq (hdl.trans hM.len).symm) ?_)) | (show rowK _ _ _ _; (refine row_of _ _ (dRows_get hq) rfl ?_)) | (show drawK _ 14 _ _ _ _ _ _; (refine draw_tree tabOk mixed [] _ (.take 0 (.take 2 (.alt 1 (.take 4 (.one 3 (.take 5 (.done)))) (.one 3 (.one 1 (.take 4 (.take 5 (.done)))))))) (by kernel_rfl) (by kernel_rfl) (by kernel_rfl) (List.Sublist.refl _) ?_)) | (show Wp _ _ _ _ _ _ _; (refine Wp.go tabOk rfl ?_)) | (show @cmpK _ _ _; (first | refine cmp_yes (by omega) ?_ | refine cmp_no (by omega) ?_ | (refine cmp_both ?_ ?_ <;> intro _))) | (show wrapK _ _ _; (refine wrap_i64 (by omega) (by omega) ?_)) | (show leK _ _ _; (refine le_of (by first | exact Nat.le_refl _ | omega) ?_)) | (show roomK _ _ _; (refine room_of (by first | omega | (dsimp only; omega)) ?_)) | (show ltK _ _ _; (refine lt_of (by omega) ?_)) | (show _ ∧ _; (refine ⟨?_, ?_⟩)) | (show keepK _ _ _ _ _; (refine keep_of (by first | exact List.Sublist.refl _ | exact List.Sublist.cons _ (List.Sublist.refl _) | exact List.Sublist.cons _ (List.Sublist.cons _ (List.Sublist.refl _)) | exact List.Sublist.cons _ (List.Sublist.cons _ (List.Sublist.cons _ (List.Sublist.refl _)))) (by first | exact (fun _ _ h => h) | exact (fun _ _ h => h.1) | exact (fun _ _ h => h.1.1)) ?_)) | (show apK _ _; (refine ap_old ?_))))
          refine own_keep ?_
          (repeat' ((conv => whnf) <;> first | (show drawK _ 22 _ _ _ _ _ _; (refine draw_tree tabOk mixed [13] _ (.take 0 (.take 1 (.take 2 (.take 3 (.take 4 (.take 5 (.take 6 (.take 7 (.take 8 (.one 9 (.one 10 (.one 11 (.take 12 (.one 13 (.done))))))))))))))) (by kernel_rfl) (by kernel_rfl) (by kernel_rfl) (List.Sublist.cons_cons _ (List.Sublist.cons_cons _ (List.Sublist.cons _ (List.Sublist.refl _)))) ?_)) | (show keepK _ _ _ _ _; (first | refine keep_of (List.Sublist.cons _ (List.Sublist.cons_cons _ (List.Sublist.cons_cons _ (List.Sublist.cons _ (List.Sublist.refl _))))) (fun _ _ h => h) ?_ | refine keep_of (List.Sublist.cons_cons _ (List.Sublist.cons_cons _ (List.Sublist.cons _ (List.Sublist.refl _)))) (fun _ _ h => h) ?_)) | (show leK _ _ _; (refine le_of (Nat.le_refl _) ?_)) | (show roomK _ _ _; (refine room_of (show 1 * 8 ≤ 140737488355328 by decide) ?_)) | (show drawK _ 14 _ _ _ _ _ _; (refine draw_tree tabOk mixed [] _ (.take 0 (.take 2 (.alt 1 (.take 4 (.one 3 (.take 5 (.done)))) (.one 3 (.one 1 (.take 4 (.take 5 (.done)))))))) (by kernel_rfl) (by kernel_rfl) (by kernel_rfl) (List.Sublist.refl _) ?_)) | (show Wp _ _ _ _ _ _ _; (refine Wp.go tabOk rfl ?_)) | (show @cmpK _ _ _; (first | refine cmp_yes (by omega) ?_ | refine cmp_no (by omega) ?_ | (refine cmp_both ?_ ?_ <;> intro _))) | (show wrapK _ _ _; (refine wrap_i64 (by omega) (by omega) ?_)) | (show leK _ _ _; (refine le_of (by first | exact Nat.le_refl _ | omega) ?_)) | (show roomK _ _ _; (refine room_of (by first | omega | (dsimp only; omega)) ?_)) | (show ltK _ _ _; (refine lt_of (by omega) ?_)) | (show _ ∧ _; (refine ⟨?_, ?_⟩)) | (show keepK _ _ _ _ _; (refine keep_of (by first | exact List.Sublist.refl _ | exact List.Sublist.cons _ (List.Sublist.refl _) | exact List.Sublist.cons _ (List.Sublist.cons _ (List.Sublist.refl _)) | exact List.Sublist.cons _ (List.Sublist.cons _ (List.Sublist.cons _ (List.Sublist.refl _)))) (by first | exact (fun _ _ h => h) | exact (fun _ _ h => h.1) | exact (fun _ _ h => h.1.1)) ?_)) | (show apK _ _; (refine ap_old ?_))))
          all_goals (conv => whnf)
          refine own_group (T := 3) (g := 6) (d := o) (us := []) (l0 := ⟨none, 0⟩) (L := dGrp M) (vs := [.int .i64 (wgtR n t.xs o i)]) ?_ (dGrp_get hq) rfl rfl rfl Nat.zero_lt_one (fun l' hlc hlb => ?_)
          · exact (by repeat (first | exact List.mem_cons_self | apply List.mem_cons_of_mem))
          have hp := hpush l' hlb hlc
          have er : dRows (M.set o (l', [] ++ [wgtR n t.xs o i])) = (dRows M).set o [.slice l'.base 1 l'.cap] := by rw [dRows_set]; rfl
          have eg : dGrp (M.set o (l', [] ++ [wgtR n t.xs o i])) = (dGrp M).set o (l', [.int .i64 (wgtR n t.xs o i)]) := by rw [dGrp_set]; rfl
          (repeat' ((conv => whnf) <;> first | (show drawK _ 22 _ _ _ _ _ _; (refine draw_tree tabOk mixed [13] _ (.take 0 (.take 1 (.take 2 (.take 3 (.take 4 (.take 5 (.take 6 (.take 7 (.take 8 (.one 9 (.one 10 (.one 11 (.take 12 (.one 13 (.done))))))))))))))) (by kernel_rfl) (by kernel_rfl) (by kernel_rfl) (List.Sublist.cons_cons _ (List.Sublist.cons_cons _ (List.Sublist.cons _ (List.Sublist.refl _)))) ?_)) | (show keepK _ _ _ _ _; (first | refine keep_of (List.Sublist.cons _ (List.Sublist.cons_cons _ (List.Sublist.cons_cons _ (List.Sublist.cons _ (List.Sublist.refl _))))) (fun _ _ h => h) ?_ | refine keep_of (List.Sublist.cons_cons _ (List.Sublist.cons_cons _ (List.Sublist.cons _ (List.Sublist.refl _)))) (fun _ _ h => h) ?_)) | (show rowStoreK _ _ _ _ _; (refine rowStore_of _ (dRows_get hq) (by show 0 + 1 ≤ 1; omega) ?_)) | (show idxRowK _ _ _ _ _ _; (refine idxRow_of o rfl hoc (Nat.le_of_eq (hdl.trans hM.len).symm) ?_)) | (show drawK _ 14 _ _ _ _ _ _; (refine draw_tree tabOk mixed [] _ (.take 0 (.take 2 (.alt 1 (.take 4 (.one 3 (.take 5 (.done)))) (.one 3 (.one 1 (.take 4 (.take 5 (.done)))))))) (by kernel_rfl) (by kernel_rfl) (by kernel_rfl) (List.Sublist.refl _) ?_)) | (show Wp _ _ _ _ _ _ _; (refine Wp.go tabOk rfl ?_)) | (show @cmpK _ _ _; (first | refine cmp_yes (by omega) ?_ | refine cmp_no (by omega) ?_ | (refine cmp_both ?_ ?_ <;> intro _))) | (show wrapK _ _ _; (refine wrap_i64 (by omega) (by omega) ?_)) | (show leK _ _ _; (refine le_of (by first | exact Nat.le_refl _ | omega) ?_)) | (show roomK _ _ _; (refine room_of (by first | omega | (dsimp only; omega)) ?_)) | (show ltK _ _ _; (refine lt_of (by omega) ?_)) | (show _ ∧ _; (refine ⟨?_, ?_⟩)) | (show keepK _ _ _ _ _; (refine keep_of (by first | exact List.Sublist.refl _ | exact List.Sublist.cons _ (List.Sublist.refl _) | exact List.Sublist.cons _ (List.Sublist.cons _ (List.Sublist.refl _)) | exact List.Sublist.cons _ (List.Sublist.cons _ (List.Sublist.cons _ (List.Sublist.refl _)))) (by first | exact (fun _ _ h => h) | exact (fun _ _ h => h.1) | exact (fun _ _ h => h.1.1)) ?_)) | (show ownK _ _ _ _ _; (refine own_keep ?_)) | (show apK _ _; (refine ap_old ?_))))
          all_goals (conv => whnf)
          refine ⟨(i + 1, M.set o (l', [] ++ [wgtR n t.xs o i])), [], ⟨hiE, hp⟩, by show E - (i + 1) < E - i; omega, rfl, ⟨rfl, rfl, rfl, rfl, rfl, rfl, rfl, rfl, rfl, rfl, rfl, trivial⟩, ?_, fun _ _ h => h⟩
          show heapInto [] _ [(3, .box [.c (.int .i64 n.kind), .c (.int .i64 n.a), .c (.int .i64 n.b), .c n.shape.val, .c (.int .i64 n.lo), .c (.int .i64 n.hi), .c (.int .i64 n.size), .c n.data.val, .c n.bias.val, .c t.val] 96), (7, .rows (dRows (M.set o (l', [] ++ [wgtR n t.xs o i]))) 1 33), (6, .ext (grpO 3 (dGrp (M.set o (l', [] ++ [wgtR n t.xs o i]))))), (8, .rows (ints bs') 1 3)]
          rw [eg, er]
          exact ⟨(by repeat (first | exact List.mem_cons_self | apply List.mem_cons_of_mem)), (by repeat (first | exact List.mem_cons_self | apply List.mem_cons_of_mem)), (by repeat (first | exact List.mem_cons_self | apply List.mem_cons_of_mem)), (by repeat (first | exact List.mem_cons_self | apply List.mem_cons_of_mem)), trivial⟩
        · obtain ⟨ql, qv⟩ := q
          simp only at e1 e2 e3 hql
          have hrow : (dRows M)[o]? = some [.slice (some ⟨b, off, none⟩) i ql.cap] := by rw [dRows_get hq, dRow, e1, hql]
          (repeat' ((conv => whnf) <;> first | (show drawK _ 22 _ _ _ _ _ _; (refine draw_tree tabOk mixed [13] _ (.take 0 (.take 1 (.take 2 (.take 3 (.take 4 (.take 5 (.take 6 (.take 7 (.take 8 (.one 9 (.one 10 (.one 11 (.take 12 (.one 13 (.done))))))))))))))) (by kernel_rfl) (by kernel_rfl) (by kernel_rfl) (List.Sublist.cons_cons _ (List.Sublist.cons_cons _ (List.Sublist.cons _ (List.Sublist.refl _)))) ?_)) | (show keepK _ _ _ _ _; (first | refine keep_of (List.Sublist.cons _ (List.Sublist.cons_cons _ (List.Sublist.cons_cons _ (List.Sublist.cons _ (List.Sublist.refl _))))) (fun _ _ h => h) ?_ | refine keep_of (List.Sublist.cons_cons _ (List.Sublist.cons_cons _ (List.Sublist.cons _ (List.Sublist.refl _)))) (fun _ _ h => h) ?_)) | (show callK _ 64 _ _ _ _ _; (refine call_pure (f := 64) Try.call64 (.int .i64 (wgtR n t.xs o i)) (fun ρ w' hw => hww w' (holds_of_abs hw fun R h => hn.later h) (holds_of_abs hw fun R h => ht.later h)) ?_)) | (show idxRowK _ _ _ _ _ _; (refine idxRow_of o rfl hoc (Nat.le_of_eq (hdl.trans hM.len).symm) ?_)) | (show rowK _ _ _ _; (refine row_of _ _ hrow rfl ?_)) | (show drawK _ 14 _ _ _ _ _ _; (refine draw_tree tabOk mixed [] _ (.take 0 (.take 2 (.alt 1 (.take 4 (.one 3 (.take 5 (.done)))) (.one 3 (.one 1 (.take 4 (.take 5 (.done)))))))) (by kernel_rfl) (by kernel_rfl) (by kernel_rfl) (List.Sublist.refl _) ?_)) | (show Wp _ _ _ _ _ _ _; (refine Wp.go tabOk rfl ?_)) | (show @cmpK _ _ _; (first | refine cmp_yes (by omega) ?_ | refine cmp_no (by omega) ?_ | (refine cmp_both ?_ ?_ <;> intro _))) | (show wrapK _ _ _; (refine wrap_i64 (by omega) (by omega) ?_)) | (show leK _ _ _; (refine le_of (by first | exact Nat.le_refl _ | omega) ?_)) | (show roomK _ _ _; (refine room_of (by first | omega | (dsimp only; omega)) ?_)) | (show ltK _ _ _; (refine lt_of (by omega) ?_)) | (show _ ∧ _; (refine ⟨?_, ?_⟩)) | (show keepK _ _ _ _ _; (refine keep_of (by first | exact List.Sublist.refl _ | exact List.Sublist.cons _ (List.Sublist.refl _) | exact List.Sublist.cons _ (List.Sublist.cons _ (List.Sublist.refl _)) | exact List.Sublist.cons _ (List.Sublist.cons _ (List.Sublist.cons _ (List.Sublist.refl _)))) (by first | exact (fun _ _ h => h) | exact (fun _ _ h => h.1) | exact (fun _ _ h => h.1.1)) ?_))))
          all_goals (conv => whnf)
          refine own_keep ?_
          (repeat' ((conv => whnf) <;> first | (show drawK _ 22 _ _ _ _ _ _; (refine draw_tree tabOk mixed [13] _ (.take 0 (.take 1 (.take 2 (.take 3 (.take 4 (.take 5 (.take 6 (.take 7 (.take 8 (.one 9 (.one 10 (.one 11 (.take 12 (.one 13 (.done))))))))))))))) (by kernel_rfl) (by kernel_rfl) (by kernel_rfl) (List.Sublist.cons_cons _ (List.Sublist.cons_cons _ (List.Sublist.cons _ (List.Sublist.refl _)))) ?_)) | (show keepK _ _ _ _ _; (first | refine keep_of (List.Sublist.cons _ (List.Sublist.cons_cons _ (List.Sublist.cons_cons _ (List.Sublist.cons _ (List.Sublist.refl _))))) (fun _ _ h => h) ?_ | refine keep_of (List.Sublist.cons_cons _ (List.Sublist.cons_cons _ (List.Sublist.cons _ (List.Sublist.refl _)))) (fun _ _ h => h) ?_)) | (show leK _ _ _; (refine le_of (Nat.le_refl _) ?_)) | (show drawK _ 14 _ _ _ _ _ _; (refine draw_tree tabOk mixed [] _ (.take 0 (.take 2 (.alt 1 (.take 4 (.one 3 (.take 5 (.done)))) (.one 3 (.one 1 (.take 4 (.take 5 (.done)))))))) (by kernel_rfl) (by kernel_rfl) (by kernel_rfl) (List.Sublist.refl _) ?_)) | (show Wp _ _ _ _ _ _ _; (refine Wp.go tabOk rfl ?_)) | (show @cmpK _ _ _; (first | refine cmp_yes (by omega) ?_ | refine cmp_no (by omega) ?_ | (refine cmp_both ?_ ?_ <;> intro _))) | (show wrapK _ _ _; (refine wrap_i64 (by omega) (by omega) ?_)) | (show leK _ _ _; (refine le_of (by first | exact Nat.le_refl _ | omega) ?_)) | (show roomK _ _ _; (refine room_of (by first | omega | (dsimp only; omega)) ?_)) | (show ltK _ _ _; (refine lt_of (by omega) ?_)) | (show _ ∧ _; (refine ⟨?_, ?_⟩)) | (show keepK _ _ _ _ _; (refine keep_of (by first | exact List.Sublist.refl _ | exact List.Sublist.cons _ (List.Sublist.refl _) | exact List.Sublist.cons _ (List.Sublist.cons _ (List.Sublist.refl _)) | exact List.Sublist.cons _ (List.Sublist.cons _ (List.Sublist.cons _ (List.Sublist.refl _)))) (by first | exact (fun _ _ h => h) | exact (fun _ _ h => h.1) | exact (fun _ _ h => h.1.1)) ?_))))
          all_goals (conv => whnf)
          obtain ⟨ii, hii, hi0, hi1, hi2⟩ := info_parts ap_info
          refine ⟨.inr ?_⟩
          refine ap_group (T := 3) (xe := 3) (g := 6) (d := o) (L := dGrp M) (l := ql) (vs := qv.map (Value.int .i64)) (v := .int .i64 (wgtR n t.xs o i)) (b := b) (off := off) (i := ii) (z := .int .i64 0) Try.underlying33 Try.underlying33 hii hi0 hi1 hi2 rfl ?_ (dGrp_get hq) e1 (by rw [List.length_map]; exact e3) (by rw [List.length_map]; omega) (fun u hu => by obtain ⟨x, _, rfl⟩ := List.mem_map.1 hu; rfl) rfl i (by rw [List.length_map]; exact hql.symm) ql.cap rfl (fun l' hlc hlb => ?_)
          · exact (by repeat (first | exact List.mem_cons_self | apply List.mem_cons_of_mem))
          rw [List.length_map] at hlc
          rw [List.length_map, hql]
          have hp := hpush l' hlb hlc
          have er : dRows (M.set o (l', qv ++ [wgtR n t.xs o i])) = (dRows M).set o [.slice l'.base (i + 1) l'.cap] := by rw [dRows_set]; simp [dRow, hql]
          have eg : dGrp (M.set o (l', qv ++ [wgtR n t.xs o i])) = (dGrp M).set o (l', qv.map (Value.int .i64) ++ [.int .i64 (wgtR n t.xs o i)]) := by rw [dGrp_set]; simp
          (repeat' ((conv => whnf) <;> first | (show drawK _ 22 _ _ _ _ _ _; (refine draw_tree tabOk mixed [13] _ (.take 0 (.take 1 (.take 2 (.take 3 (.take 4 (.take 5 (.take 6 (.take 7 (.take 8 (.one 9 (.one 10 (.one 11 (.take 12 (.one 13 (.done))))))))))))))) (by kernel_rfl) (by kernel_rfl) (by kernel_rfl) (List.Sublist.cons_cons _ (List.Sublist.cons_cons _ (List.Sublist.cons _ (List.Sublist.refl _)))) ?_)) | (show keepK _ _ _ _ _; (first | refine keep_of (List.Sublist.cons _ (List.Sublist.cons_cons _ (List.Sublist.cons_cons _ (List.Sublist.cons _ (List.Sublist.refl _))))) (fun _ _ h => h) ?_ | refine keep_of (List.Sublist.cons_cons _ (List.Sublist.cons_cons _ (List.Sublist.cons _ (List.Sublist.refl _)))) (fun _ _ h => h) ?_)) | (show rowStoreK _ _ _ _ _; (refine rowStore_of _ (dRows_get hq) (by show 0 + 1 ≤ 1; omega) ?_)) | (show idxRowK _ _ _ _ _ _; (refine idxRow_of o rfl hoc (Nat.le_of_eq (hdl.trans hM.len).symm) ?_)) | (show drawK _ 14 _ _ _ _ _ _; (refine draw_tree tabOk mixed [] _ (.take 0 (.take 2 (.alt 1 (.take 4 (.one 3 (.take 5 (.done)))) (.one 3 (.one 1 (.take 4 (.take 5 (.done)))))))) (by kernel_rfl) (by kernel_rfl) (by kernel_rfl) (List.Sublist.refl _) ?_)) | (show Wp _ _ _ _ _ _ _; (refine Wp.go tabOk rfl ?_)) | (show @cmpK _ _ _; (first | refine cmp_yes (by omega) ?_ | refine cmp_no (by omega) ?_ | (refine cmp_both ?_ ?_ <;> intro _))) | (show wrapK _ _ _; (refine wrap_i64 (by omega) (by omega) ?_)) | (show leK _ _ _; (refine le_of (by first | exact Nat.le_refl _ | omega) ?_)) | (show roomK _ _ _; (refine room_of (by first | omega | (dsimp only; omega)) ?_)) | (show ltK _ _ _; (refine lt_of (by omega) ?_)) | (show _ ∧ _; (refine ⟨?_, ?_⟩)) | (show keepK _ _ _ _ _; (refine keep_of (by first | exact List.Sublist.refl _ | exact List.Sublist.cons _ (List.Sublist.refl _) | exact List.Sublist.cons _ (List.Sublist.cons _ (List.Sublist.refl _)) | exact List.Sublist.cons _ (List.Sublist.cons _ (List.Sublist.cons _ (List.Sublist.refl _)))) (by first | exact (fun _ _ h => h) | exact (fun _ _ h => h.1) | exact (fun _ _ h => h.1.1)) ?_)) | (show ownK _ _ _ _ _; (refine own_keep ?_)) | (show apK _ _; (refine ap_old ?_))))
          all_goals (conv => whnf)
          refine ⟨(i + 1, M.set o (l', qv ++ [wgtR n t.xs o i])), [], ⟨hiE, hp⟩, by show E - (i + 1) < E - i; omega, rfl, ⟨rfl, rfl, rfl, rfl, rfl, rfl, rfl, rfl, rfl, rfl, rfl, trivial⟩, ?_, fun _ _ h => h⟩
          show heapInto [] _ [(3, .box [.c (.int .i64 n.kind), .c (.int .i64 n.a), .c (.int .i64 n.b), .c n.shape.val, .c (.int .i64 n.lo), .c (.int .i64 n.hi), .c (.int .i64 n.size), .c n.data.val, .c n.bias.val, .c t.val] 96), (7, .rows (dRows (M.set o (l', qv ++ [wgtR n t.xs o i]))) 1 33), (6, .ext (grpO 3 (dGrp (M.set o (l', qv ++ [wgtR n t.xs o i]))))), (8, .rows (ints bs') 1 3)]
          rw [eg, er]
          exact ⟨(by repeat (first | exact List.mem_cons_self | apply List.mem_cons_of_mem)), (by repeat (first | exact List.mem_cons_self | apply List.mem_cons_of_mem)), (by repeat (first | exact List.mem_cons_self | apply List.mem_cons_of_mem)), (by repeat (first | exact List.mem_cons_self | apply List.mem_cons_of_mem)), trivial⟩
      · (repeat' ((conv => whnf) <;> first | (show drawK _ 14 _ _ _ _ _ _; (refine draw_tree tabOk mixed [] _ (.take 0 (.take 2 (.alt 1 (.take 4 (.one 3 (.take 5 (.done)))) (.one 3 (.one 1 (.take 4 (.take 5 (.done)))))))) (by kernel_rfl) (by kernel_rfl) (by kernel_rfl) (List.Sublist.refl _) ?_)) | (show drawK _ 22 _ _ _ _ _ _; (refine draw_tree tabOk mixed [13] _ (.take 0 (.take 1 (.take 2 (.take 3 (.take 4 (.take 5 (.take 6 (.take 7 (.take 8 (.one 9 (.one 10 (.one 11 (.take 12 (.one 13 (.done))))))))))))))) (by kernel_rfl) (by kernel_rfl) (by kernel_rfl) (List.Sublist.refl _) ?_)) | (show Wp _ _ _ _ _ _ _; (refine Wp.go tabOk rfl ?_)) | (show @cmpK _ _ _; (first | refine cmp_yes (by omega) ?_ | refine cmp_no (by omega) ?_ | (refine cmp_both ?_ ?_ <;> intro _))) | (show wrapK _ _ _; (refine wrap_i64 (by omega) (by omega) ?_)) | (show leK _ _ _; (refine le_of (by first | exact Nat.le_refl _ | omega) ?_)) | (show roomK _ _ _; (refine room_of (by first | omega | (dsimp only; omega)) ?_)) | (show ltK _ _ _; (refine lt_of (by omega) ?_)) | (show _ ∧ _; (refine ⟨?_, ?_⟩)) | (show keepK _ _ _ _ _; (refine keep_of (by first | exact List.Sublist.refl _ | exact List.Sublist.cons _ (List.Sublist.refl _) | exact List.Sublist.cons _ (List.Sublist.cons _ (List.Sublist.refl _)) | exact List.Sublist.cons _ (List.Sublist.cons _ (List.Sublist.cons _ (List.Sublist.refl _)))) (by first | exact (fun _ _ h => h) | exact (fun _ _ h => h.1) | exact (fun _ _ h => h.1.1)) ?_)) | (show ownK _ _ _ _ _; (refine own_keep ?_)) | (show apK _ _; (refine ap_old ?_))))
        all_goals (conv => whnf)
        have hie : i = E := by omega
        rw [hie, ← hEt] at hM
        exact ⟨(o + 1, M, bs'), [], ⟨hoc, hM.next, hB'⟩, by show cnt - (o + 1) < cnt - o; omega, rfl, ⟨rfl, rfl, rfl, rfl, rfl, rfl, rfl, rfl, trivial⟩, ⟨(by repeat (first | exact List.mem_cons_self | apply List.mem_cons_of_mem)), (by repeat (first | exact List.mem_cons_self | apply List.mem_cons_of_mem)), (by repeat (first | exact List.mem_cons_self | apply List.mem_cons_of_mem)), (by repeat (first | exact List.mem_cons_self | apply List.mem_cons_of_mem)), trivial⟩, fun _ _ h => h⟩
    · (repeat' ((conv => whnf) <;> first | (show drawK _ 14 _ _ _ _ _ _; (refine draw_tree tabOk mixed [] _ (.take 0 (.take 2 (.alt 1 (.take 4 (.one 3 (.take 5 (.done)))) (.one 3 (.one 1 (.take 4 (.take 5 (.done)))))))) (by kernel_rfl) (by kernel_rfl) (by kernel_rfl) (List.Sublist.refl _) ?_)) | (show drawK _ 22 _ _ _ _ _ _; (refine draw_tree tabOk mixed [13] _ (.take 0 (.take 1 (.take 2 (.take 3 (.take 4 (.take 5 (.take 6 (.take 7 (.take 8 (.one 9 (.one 10 (.one 11 (.take 12 (.one 13 (.done))))))))))))))) (by kernel_rfl) (by kernel_rfl) (by kernel_rfl) (List.Sublist.refl _) ?_)) | (show Wp _ _ _ _ _ _ _; (refine Wp.go tabOk rfl ?_)) | (show @cmpK _ _ _; (first | refine cmp_yes (by omega) ?_ | refine cmp_no (by omega) ?_ | (refine cmp_both ?_ ?_ <;> intro _))) | (show wrapK _ _ _; (refine wrap_i64 (by omega) (by omega) ?_)) | (show leK _ _ _; (refine le_of (by first | exact Nat.le_refl _ | omega) ?_)) | (show roomK _ _ _; (refine room_of (by first | omega | (dsimp only; omega)) ?_)) | (show ltK _ _ _; (refine lt_of (by omega) ?_)) | (show _ ∧ _; (refine ⟨?_, ?_⟩)) | (show keepK _ _ _ _ _; (refine keep_of (by first | exact List.Sublist.refl _ | exact List.Sublist.cons _ (List.Sublist.refl _) | exact List.Sublist.cons _ (List.Sublist.cons _ (List.Sublist.refl _)) | exact List.Sublist.cons _ (List.Sublist.cons _ (List.Sublist.cons _ (List.Sublist.refl _)))) (by first | exact (fun _ _ h => h) | exact (fun _ _ h => h.1) | exact (fun _ _ h => h.1.1)) ?_)) | (show ownK _ _ _ _ _; (refine own_keep ?_)) | (show apK _ _; (refine ap_old ?_))))
      all_goals (conv => whnf)
      have hoe : o = cnt := by omega
      rw [hoe] at hL hB
      exact rows_end (i := 7) (g := 6) (j := 8) (fun _ _ h => h) rfl hL.each hL.fits hL.len.symm hB.len.symm (fun x hx => by rw [hB.done] at hx; obtain ⟨k, _, rfl⟩ := List.mem_map.1 hx; exact biasI_i64 hn.bias.fits cnt k) (by rw [hB.len]; omega) (by repeat (first | exact List.mem_cons_self | apply List.mem_cons_of_mem)) (by repeat (first | exact List.mem_cons_self | apply List.mem_cons_of_mem)) (by repeat (first | exact List.mem_cons_self | apply List.mem_cons_of_mem)) (by rw [hL.done, ← hB.done])
theorem rowsLin_any (w : World) (n : NodeV) (t : IntsV) (hn : n.ok w) (hsm : n.small) (ht : t.ok w) : Calls Try.prog 35 #[n.valA, t.val] w (RowsPost w (rowsR n t)) := by
  by_cases hok : okRows n t
  · exact rowsLin_ok w n t hn hsm ht hok
  · exact rowsLin_no w n t hn hsm ht hok
end Go.Proofs.Ytdmkdogakbipbaa

/- JN -/
namespace Go.Proofs.Ytdmkdogakbipbaa
open Go.SX Go.RowKit
end Go.Proofs.Ytdmkdogakbipbaa

/- JO -/
namespace Go.Proofs.Ytdmkdogakbipbaa
open Go.SX Go.RowKit
theorem call_mat {cx : Cx} {f : FuncId} {args : List SV} {H : Heap} {S : Asn} {nx : Nat} {K : SV → Heap → Asn → Nat → Prop} (n : NodeV) (tl : List Int) (cnt : Nat) (hf : ∀ ar w, (callFunc f ar).run cx.P w = .ok (.enter f ar) w)
    (hc : ∀ ρ w', Abs cx.B ρ nx H S w' → Calls cx.P f (SV.rfs ρ args).toArray w' (MatPost w' n tl cnt))
    (h : ∀ x : MatV, MatIs n tl cnt x → K (.c x.val) H (S.and ((matD x).past cx.B.w0.heap.size)) nx) : callK cx f args H S nx K := by
  rw [callK_def]
  refine ⟨hf, fun ρ w hw => (hc ρ w hw).mono ?_⟩
  rintro e w' ⟨x, hx, rfl, he, hD⟩
  exact ⟨.c x.val, ρ, H, _, nx, rfl, fun _ _ => rfl, Nat.le_refl _, SV.lt_c _, hw.grow he hD, h x hx⟩
theorem dense_cut {n : NodeV} {sh : List (List Int)} {s t : List Int} {cnt : Nat} (h : PlaceIn n sh s t cnt) (hk : n.kind = 3) {o : Nat} (ho : o < cnt) : o * (entries t).toNat + (entries t).toNat ≤ n.data.xs.length := by
  have hsh := h.node.shape
  have hc := h.cnt
  obtain ⟨hf, hgp⟩ := h.first (.inl hk)
  obtain ⟨b1, b2⟩ := (formed_of h.node.form).bias hk
  unfold shapeO at hsh
  rw [if_neg (by omega), if_pos hk, hf] at hsh
  split at hsh
  · rename_i hdl
    rw [Option.some.injEq] at hsh
    have he1 : entries [(n.bias.xs.length : Int)] = n.bias.xs.length := by
      unfold entries
      rw [if_neg (by simp)]
      simp only [entLoop]
      rw [if_neg (by omega)]
      omega
    rw [← hsh, he1] at hc
    obtain ⟨size, hsz⟩ : ∃ size : Nat, entries t = size := ⟨(entries t).toNat, by omega⟩
    have hdl' : n.data.xs.length = n.bias.xs.length * size := by
      rw [hsz, ← Int.natCast_mul] at hdl
      exact Int.ofNat.inj hdl
    rw [hsz, Int.toNat_natCast]
    have : (o + 1) * size ≤ n.bias.xs.length * size := Nat.mul_le_mul_right _ (by omega)
    rw [Nat.add_mul, Nat.one_mul] at this
    omega
  · cases hsh
theorem MatIs.row {n : NodeV} {tl : List Int} {cnt : Nat} {x : MatV} (h : MatIs n tl cnt x) {o : Nat} (ho : o < x.rows.l.length) : x.rows.l.length = cnt ∧ x.rows.l[o].xs = matRow n tl o ∧ x.bias.xs.length = cnt ∧ x.bias.xs.getD o 0 = biasI n cnt o := by
  have h1 : x.rows.l.length = cnt := by
    have := congrArg List.length h.rows
    simpa [matRows] using this
  have h2 : (x.rows.l.map IntsV.xs)[o]? = ((List.range cnt).map (matRow n tl))[o]? := by rw [h.rows]; rfl
  rw [List.getElem?_map, List.getElem?_eq_getElem ho, List.getElem?_map, List.getElem?_range (by omega)] at h2
  have h3 : x.bias.xs.length = cnt := by rw [h.bias]; simp [matBias]
  refine ⟨h1, by simpa using h2, h3, ?_⟩
  rw [h.bias, matBias, List.getD_eq_getElem?_getD, List.getElem?_map, List.getElem?_range (by omega)]; rfl
theorem MatIs.count {n : NodeV} {tl : List Int} {cnt : Nat} {x : MatV} (h : MatIs n tl cnt x) : x.rows.l.length = cnt := by
  have := congrArg List.length h.rows
  simpa [matRows] using this
end Go.Proofs.Ytdmkdogakbipbaa

/- MP -/
namespace Go.Proofs.Ytdmkdogakbipbaa
open Go.SX Go.RowKit
structure RefIs (n : NodeV) (r : List (List Int) × List Int) (x : MatV) : Prop where
  rows : x.rows.l.map IntsV.xs = r.1
  bias : x.bias.xs = r.2
  sane : ∀ u ∈ x.rows.l, u.sane
  biasSane : x.bias.sane
  old : x.own = false → x.bias = n.bias ∧ ∀ w, n.data.ok w → ∀ u ∈ x.rows.l, u.ok w
def RefPost (w : World) (n : NodeV) (r : (List (List Int) × List Int) × Int) (e : Ending) (w' : World) : Prop :=
  ∃ x : MatV, RefIs n r.1 x ∧ e = .returned (.tuple #[x.rows.val, x.bias.val, .int .i64 r.2]) ∧ Ext w w' ∧ (matD x).holds (fun b => w.heap.size ≤ b ∧ b < w'.heap.size) w'
theorem matRow_len {n : NodeV} {sh : List (List Int)} {s t : List Int} {cnt : Nat} (h : PlaceIn n sh s t cnt) (hl : isLin n) {o : Nat} (ho : o < cnt) : (matRow n t o).length = (entries t).toNat := by
  unfold matRow
  split
  · rename_i hk
    have := dense_cut h hk ho
    rw [List.length_take, List.length_drop]; omega
  · rw [setsT_length, List.length_replicate]
theorem mat_rowsW {n : NodeV} {sh : List (List Int)} {s t : List Int} {cnt : Nat} (h : PlaceIn n sh s t cnt) (hl : isLin n) : matRows n t cnt = rowsW n t cnt := by
  have h9 : n.kind ≠ 9 := by rcases hl with g | g | g <;> omega
  have hb := entries_bd t
  unfold matRows rowsW
  refine List.map_congr_left fun o ho => ?_
  have ho' := List.mem_range.1 ho
  have hl1 := matRow_len h hl ho'
  apply List.ext_getElem
  · rw [hl1, rowW_length]
  · intro i h1 h2
    rw [rowW_length] at h2
    have := mat_weight h hl (o := o) (i := i) (by omega)
    have e1 : (matRow n t o).getD i 0 = (matRow n t o)[i] := by simp [List.getD, h1]
    rw [e1] at this
    rw [this]
    simp [rowW, h9]
def flatRow (E o : Nat) : List Int := (List.replicate E 0).set o 1
theorem flat_rowsW {n : NodeV} {t : List Int} (h9 : n.kind = 9) {E : Nat} (hE : (entries t).toNat = E) : rowsW n t E = (List.range E).map (flatRow E) := by
  unfold rowsW
  refine List.map_congr_left fun o ho => ?_
  apply List.ext_getElem
  · rw [rowW_length, hE]; simp [flatRow]
  · intro i h1 h2
    rw [rowW_length, hE] at h1
    have e : (rowW n t o)[i] = wgt9 o i := by simp [rowW, h9]
    rw [e]
    have e2 : (flatRow E o)[i] = if o = i then 1 else 0 := by
      simp only [flatRow, List.getElem_set]
      split
      · rfl
      · simp
    rw [e2]
    unfold wgt9
    by_cases g : o = i
    · rw [if_pos (by rw [g]), if_pos g]
    · rw [if_neg (by omega), if_neg g]
theorem flat_bias {n : NodeV} (h9 : n.kind = 9) (E : Nat) : (List.range E).map (biasI n E) = List.replicate E 0 := by
  apply List.ext_getElem
  · simp
  · intro i h1 h2
    simp [biasI, h9]
theorem flat_cnt {n : NodeV} {t s : List Int} {cnt : Nat} (h : RowsIn n t s cnt) (ha : n.a = 0) (h9 : n.kind = 9) : (entries t).toNat = cnt := by
  have hsh := h.place.node.shape
  have hc := h.place.cnt
  unfold shapeO at hsh
  rw [if_neg (by omega), if_neg (by omega), if_neg (by omega), if_neg (by omega), if_neg (by omega), if_pos h9, ha] at hsh
  split at hsh
  · rename_i he
    have : n.shape.xs = s := Option.some.inj hsh
    rw [this] at he
    have e2 : ([t] : List (List Int)).getD (Int.toNat 0) [] = t := rfl
    rw [e2] at he
    omega
  · cases hsh
end Go.Proofs.Ytdmkdogakbipbaa

/- MQ -/
namespace Go.Proofs.Ytdmkdogakbipbaa
open Go.SX Go.RowKit
theorem ref_of_rows {w w' : World} {n : NodeV} {r : (List (List Int) × List Int) × Int} {e : Ending} (h : RowsPost w r e w') : RefPost w n r e w' := by
  obtain ⟨x, y, ⟨h1, h2, h3⟩, h4, h5, h6, h7⟩ := h
  exact ⟨⟨x, y, true⟩, ⟨h1.rows, h2, h1.sane, h3, fun e => (by cases e)⟩, h4, h5, h6.1, fun _ => ⟨h6.2, h7⟩⟩
set_option maxRecDepth 20000 in
set_option maxHeartbeats 8000000 in
theorem refRows_no (w : World) (n : NodeV) (t : IntsV) (hn : n.ok w) (hsm : n.small) (ht : t.ok w) (hno : ¬ okRows n t) : Calls Try.prog 36 #[n.valA, t.val] w (RowsPost w (rowsR n t)) := by
  by_cases hk : (isLin n ∨ n.kind = 9) ∧ n.a = 0
  · have hkk := hk
    unfold isLin at hk
    refine calls_of tab tabOk Try.func36 rfl rfl rfl [] (fun _ => ⟨none, 0⟩) [.agg [.c (.int .i64 n.kind), .c (.int .i64 n.a), .c (.int .i64 n.b), .c n.shape.val, .c (.int .i64 n.lo), .c (.int .i64 n.hi), .c (.int .i64 n.size), .c n.data.val, .c n.bias.val], .c t.val] [] (baseA w) 0 rfl rfl (by show 2 ≤ _; decide) (abs_base w) ?_
    (repeat' ((conv => whnf) <;> first | (show drawK _ 18 _ _ _ _ _ _; (refine draw_tree tabOk mixed [] _ (.take 0 (.take 1 (.take 3 (.one 2 (.take 4 (.take 5 (.done))))))) (by kernel_rfl) (by kernel_rfl) (by kernel_rfl) (List.Sublist.refl _) ?_)) | (show Wp _ _ _ _ _ _ _; (refine Wp.go tabOk rfl ?_)) | (show @cmpK _ _ _; (first | refine cmp_yes (by omega) ?_ | refine cmp_no (by omega) ?_ | (refine cmp_both ?_ ?_ <;> intro _))) | (show wrapK _ _ _; (refine wrap_i64 (by omega) (by omega) ?_)) | (show leK _ _ _; (refine le_of (by first | exact Nat.le_refl _ | omega) ?_)) | (show roomK _ _ _; (refine room_of (by first | omega | (dsimp only; omega)) ?_)) | (show ltK _ _ _; (refine lt_of (by omega) ?_)) | (show _ ∧ _; (refine ⟨?_, ?_⟩)) | (show keepK _ _ _ _ _; (refine keep_of (by first | exact List.Sublist.refl _ | exact List.Sublist.cons _ (List.Sublist.refl _) | exact List.Sublist.cons _ (List.Sublist.cons _ (List.Sublist.refl _)) | exact List.Sublist.cons _ (List.Sublist.cons _ (List.Sublist.cons _ (List.Sublist.refl _)))) (by first | exact (fun _ _ h => h) | exact (fun _ _ h => h.1) | exact (fun _ _ h => h.1.1)) ?_)) | (show apK _ _; (refine ap_old ?_))))
    all_goals first | (exfalso; omega) | skip
    all_goals
      (repeat' ((conv => whnf) <;> first | (show drawK _ 18 _ _ _ _ _ _; (refine draw_tree tabOk mixed [] _ (.take 0 (.take 1 (.take 3 (.one 2 (.take 4 (.take 5 (.done))))))) (by kernel_rfl) (by kernel_rfl) (by kernel_rfl) (List.Sublist.refl _) ?_)) | (show Wp _ _ _ _ _ _ _; (refine Wp.go tabOk rfl ?_)) | (show @cmpK _ _ _; (first | refine cmp_yes (by omega) ?_ | refine cmp_no (by omega) ?_ | (refine cmp_both ?_ ?_ <;> intro _))) | (show wrapK _ _ _; (refine wrap_i64 (by omega) (by omega) ?_)) | (show leK _ _ _; (refine le_of (by first | exact Nat.le_refl _ | omega) ?_)) | (show roomK _ _ _; (refine room_of (by first | omega | (dsimp only; omega)) ?_)) | (show ltK _ _ _; (refine lt_of (by omega) ?_)) | (show _ ∧ _; (refine ⟨?_, ?_⟩)) | (show keepK _ _ _ _ _; (refine keep_of (by first | exact List.Sublist.refl _ | exact List.Sublist.cons _ (List.Sublist.refl _) | exact List.Sublist.cons _ (List.Sublist.cons _ (List.Sublist.refl _)) | exact List.Sublist.cons _ (List.Sublist.cons _ (List.Sublist.cons _ (List.Sublist.refl _)))) (by first | exact (fun _ _ h => h) | exact (fun _ _ h => h.1) | exact (fun _ _ h => h.1.1)) ?_)) | (show apK _ _; (refine ap_old ?_))))
      refine own_freeze 0 (fun _ _ _ _ hb => absurd hb (Nat.not_lt_zero _)) (fun l1 hl1 => ?_)
      (repeat' ((conv => whnf) <;> first | (show callK _ 38 _ _ _ _ _; (refine call_check3 (f := 38) (chk2 n t) Try.call38 (fun ρ w' hw => by have := refCheck_any w' ⟨l1.base, l1.cap, [inN t, n], 1⟩ (holds_of_abs hw fun R h => g2_ok (hn.later h.1) hsm (ht.later h.1) h.2); rw [chk2_eq] at this; exact this) (fun hne => ?_) (fun he sv hm hsv hsb => absurd ⟨hkk.1, hkk.2, he⟩ hno))) | (show @cmpK _ _ _; (first | refine cmp_yes (by omega) ?_ | refine cmp_no (fun h => h rfl) ?_)) | (show drawK _ 18 _ _ _ _ _ _; (refine draw_tree tabOk mixed [] _ (.take 0 (.take 1 (.take 3 (.one 2 (.take 4 (.take 5 (.done))))))) (by kernel_rfl) (by kernel_rfl) (by kernel_rfl) (List.Sublist.refl _) ?_)) | (show Wp _ _ _ _ _ _ _; (refine Wp.go tabOk rfl ?_)) | (show @cmpK _ _ _; (first | refine cmp_yes (by omega) ?_ | refine cmp_no (by omega) ?_ | (refine cmp_both ?_ ?_ <;> intro _))) | (show wrapK _ _ _; (refine wrap_i64 (by omega) (by omega) ?_)) | (show leK _ _ _; (refine le_of (by first | exact Nat.le_refl _ | omega) ?_)) | (show roomK _ _ _; (refine room_of (by first | omega | (dsimp only; omega)) ?_)) | (show ltK _ _ _; (refine lt_of (by omega) ?_)) | (show _ ∧ _; (refine ⟨?_, ?_⟩)) | (show keepK _ _ _ _ _; (refine keep_of (by first | exact List.Sublist.refl _ | exact List.Sublist.cons _ (List.Sublist.refl _) | exact List.Sublist.cons _ (List.Sublist.cons _ (List.Sublist.refl _)) | exact List.Sublist.cons _ (List.Sublist.cons _ (List.Sublist.cons _ (List.Sublist.refl _)))) (by first | exact (fun _ _ h => h) | exact (fun _ _ h => h.1) | exact (fun _ _ h => h.1.1)) ?_)) | (show apK _ _; (refine ap_old ?_))))
      all_goals (conv => whnf)
      all_goals first | exact rows_fail hno (fun _ _ h => h.1) rfl | exact rows_fail hno (fun _ _ h => h.1.1) rfl
  · unfold isLin at hk
    refine calls_of tab tabOk Try.func36 rfl rfl rfl [] (fun _ => ⟨none, 0⟩) [.agg [.c (.int .i64 n.kind), .c (.int .i64 n.a), .c (.int .i64 n.b), .c n.shape.val, .c (.int .i64 n.lo), .c (.int .i64 n.hi), .c (.int .i64 n.size), .c n.data.val, .c n.bias.val], .c t.val] [] (baseA w) 0 rfl rfl (by show 2 ≤ _; decide) (abs_base w) ?_
    (repeat' ((conv => whnf) <;> first | (show drawK _ 18 _ _ _ _ _ _; (refine draw_tree tabOk mixed [] _ (.take 0 (.take 1 (.take 3 (.one 2 (.take 4 (.take 5 (.done))))))) (by kernel_rfl) (by kernel_rfl) (by kernel_rfl) (List.Sublist.refl _) ?_)) | (show Wp _ _ _ _ _ _ _; (refine Wp.go tabOk rfl ?_)) | (show @cmpK _ _ _; (first | refine cmp_yes (by omega) ?_ | refine cmp_no (by omega) ?_ | (refine cmp_both ?_ ?_ <;> intro _))) | (show wrapK _ _ _; (refine wrap_i64 (by omega) (by omega) ?_)) | (show leK _ _ _; (refine le_of (by first | exact Nat.le_refl _ | omega) ?_)) | (show roomK _ _ _; (refine room_of (by first | omega | (dsimp only; omega)) ?_)) | (show ltK _ _ _; (refine lt_of (by omega) ?_)) | (show _ ∧ _; (refine ⟨?_, ?_⟩)) | (show keepK _ _ _ _ _; (refine keep_of (by first | exact List.Sublist.refl _ | exact List.Sublist.cons _ (List.Sublist.refl _) | exact List.Sublist.cons _ (List.Sublist.cons _ (List.Sublist.refl _)) | exact List.Sublist.cons _ (List.Sublist.cons _ (List.Sublist.cons _ (List.Sublist.refl _)))) (by first | exact (fun _ _ h => h) | exact (fun _ _ h => h.1) | exact (fun _ _ h => h.1.1)) ?_)) | (show apK _ _; (refine ap_old ?_))))
    all_goals first | (exfalso; omega) | skip
    all_goals (conv => whnf)
    all_goals first | (exfalso; omega) | exact rows_fail hno (fun _ _ h => h) rfl
set_option maxRecDepth 20000 in
set_option maxHeartbeats 8000000 in
theorem refRows_lin (w : World) (n : NodeV) (t : IntsV) (hn : n.ok w) (hsm : n.small) (ht : t.ok w) (hok : okRows n t) (hl : isLin n) : Calls Try.prog 36 #[n.valA, t.val] w (RefPost w n (rowsR n t)) := by
  obtain ⟨s, hsh, hcs, hR⟩ := rows_in hok
  rw [rowsR, if_pos hok]
  obtain ⟨cnt, hce⟩ : ∃ c, cntR n t = c := ⟨_, rfl⟩
  rw [hce] at hcs hR ⊢
  have ha := hok.2.1
  have hl' := hl
  unfold isLin at hl'
  refine calls_of tab tabOk Try.func36 rfl rfl rfl [] (fun _ => ⟨none, 0⟩) [.agg [.c (.int .i64 n.kind), .c (.int .i64 n.a), .c (.int .i64 n.b), .c n.shape.val, .c (.int .i64 n.lo), .c (.int .i64 n.hi), .c (.int .i64 n.size), .c n.data.val, .c n.bias.val], .c t.val] [] (baseA w) 0 rfl rfl (by show 2 ≤ _; decide) (abs_base w) ?_
  (repeat' ((conv => whnf) <;> first | (show drawK _ 18 _ _ _ _ _ _; (refine draw_tree tabOk mixed [] _ (.take 0 (.take 1 (.take 3 (.one 2 (.take 4 (.take 5 (.done))))))) (by kernel_rfl) (by kernel_rfl) (by kernel_rfl) (List.Sublist.refl _) ?_)) | (show Wp _ _ _ _ _ _ _; (refine Wp.go tabOk rfl ?_)) | (show @cmpK _ _ _; (first | refine cmp_yes (by omega) ?_ | refine cmp_no (by omega) ?_ | (refine cmp_both ?_ ?_ <;> intro _))) | (show wrapK _ _ _; (refine wrap_i64 (by omega) (by omega) ?_)) | (show leK _ _ _; (refine le_of (by first | exact Nat.le_refl _ | omega) ?_)) | (show roomK _ _ _; (refine room_of (by first | omega | (dsimp only; omega)) ?_)) | (show ltK _ _ _; (refine lt_of (by omega) ?_)) | (show _ ∧ _; (refine ⟨?_, ?_⟩)) | (show keepK _ _ _ _ _; (refine keep_of (by first | exact List.Sublist.refl _ | exact List.Sublist.cons _ (List.Sublist.refl _) | exact List.Sublist.cons _ (List.Sublist.cons _ (List.Sublist.refl _)) | exact List.Sublist.cons _ (List.Sublist.cons _ (List.Sublist.cons _ (List.Sublist.refl _)))) (by first | exact (fun _ _ h => h) | exact (fun _ _ h => h.1) | exact (fun _ _ h => h.1.1)) ?_)) | (show apK _ _; (refine ap_old ?_))))
  all_goals first | (exfalso; omega) | skip
  all_goals
    (repeat' ((conv => whnf) <;> first | (show drawK _ 18 _ _ _ _ _ _; (refine draw_tree tabOk mixed [] _ (.take 0 (.take 1 (.take 3 (.one 2 (.take 4 (.take 5 (.done))))))) (by kernel_rfl) (by kernel_rfl) (by kernel_rfl) (List.Sublist.refl _) ?_)) | (show Wp _ _ _ _ _ _ _; (refine Wp.go tabOk rfl ?_)) | (show @cmpK _ _ _; (first | refine cmp_yes (by omega) ?_ | refine cmp_no (by omega) ?_ | (refine cmp_both ?_ ?_ <;> intro _))) | (show wrapK _ _ _; (refine wrap_i64 (by omega) (by omega) ?_)) | (show leK _ _ _; (refine le_of (by first | exact Nat.le_refl _ | omega) ?_)) | (show roomK _ _ _; (refine room_of (by first | omega | (dsimp only; omega)) ?_)) | (show ltK _ _ _; (refine lt_of (by omega) ?_)) | (show _ ∧ _; (refine ⟨?_, ?_⟩)) | (show keepK _ _ _ _ _; (refine keep_of (by first | exact List.Sublist.refl _ | exact List.Sublist.cons _ (List.Sublist.refl _) | exact List.Sublist.cons _ (List.Sublist.cons _ (List.Sublist.refl _)) | exact List.Sublist.cons _ (List.Sublist.cons _ (List.Sublist.cons _ (List.Sublist.refl _)))) (by first | exact (fun _ _ h => h) | exact (fun _ _ h => h.1) | exact (fun _ _ h => h.1.1)) ?_)) | (show apK _ _; (refine ap_old ?_))))
    refine own_freeze 0 (fun _ _ _ _ hb => absurd hb (Nat.not_lt_zero _)) (fun l1 hl1 => ?_)
    (repeat' ((conv => whnf) <;> first | (show callK _ 38 _ _ _ _ _; (refine call_check3 (f := 38) (chk2 n t) Try.call38 (fun ρ w' hw => by have := refCheck_any w' ⟨l1.base, l1.cap, [inN t, n], 1⟩ (holds_of_abs hw fun R h => g2_ok (hn.later h.1) hsm (ht.later h.1) h.2); rw [chk2_eq] at this; exact this) (fun hne => absurd hok.2.2 hne) (fun he sv hm hsv hsb => ?_))) | (show @cmpK _ _ _; (first | refine cmp_yes (by omega) ?_ | refine cmp_no (fun h => h rfl) ?_)) | (show callK _ 66 _ _ _ _ _; (refine call_mat n t.xs cnt Try.call66 (fun ρ w' hw => mat_all w' n [t.xs] s t cnt hR.place hl (holds_of_abs hw fun R h => hn.later h.1.1) (holds_of_abs hw fun R h => ht.later h.1.1)) (fun x hx => ?_))) | (show drawK _ 18 _ _ _ _ _ _; (refine draw_tree tabOk mixed [] _ (.take 0 (.take 1 (.take 3 (.one 2 (.take 4 (.take 5 (.done))))))) (by kernel_rfl) (by kernel_rfl) (by kernel_rfl) (List.Sublist.refl _) ?_)) | (show Wp _ _ _ _ _ _ _; (refine Wp.go tabOk rfl ?_)) | (show @cmpK _ _ _; (first | refine cmp_yes (by omega) ?_ | refine cmp_no (by omega) ?_ | (refine cmp_both ?_ ?_ <;> intro _))) | (show wrapK _ _ _; (refine wrap_i64 (by omega) (by omega) ?_)) | (show leK _ _ _; (refine le_of (by first | exact Nat.le_refl _ | omega) ?_)) | (show roomK _ _ _; (refine room_of (by first | omega | (dsimp only; omega)) ?_)) | (show ltK _ _ _; (refine lt_of (by omega) ?_)) | (show _ ∧ _; (refine ⟨?_, ?_⟩)) | (show keepK _ _ _ _ _; (refine keep_of (by first | exact List.Sublist.refl _ | exact List.Sublist.cons _ (List.Sublist.refl _) | exact List.Sublist.cons _ (List.Sublist.cons _ (List.Sublist.refl _)) | exact List.Sublist.cons _ (List.Sublist.cons _ (List.Sublist.cons _ (List.Sublist.refl _)))) (by first | exact (fun _ _ h => h) | exact (fun _ _ h => h.1) | exact (fun _ _ h => h.1.1)) ?_)) | (show apK _ _; (refine ap_old ?_))))
    all_goals (conv => whnf)
    refine fin_of fun ρ w' hw => ⟨x, ⟨by rw [hx.rows]; exact mat_rowsW hR.place hl, hx.bias, hx.sane, hx.biasSane, hx.old⟩, rfl, ext_of_abs hw (fun _ _ h => h.1.1.1), past_new hw fun R w' h => h.2⟩
end Go.Proofs.Ytdmkdogakbipbaa

/- MR -/
namespace Go.Proofs.Ytdmkdogakbipbaa
open Go.SX Go.RowKit
structure FlatPre (E o : Nat) (L : List DCell) : Prop where
  len : L.length = E
  is : ∀ k p, L[k]? = some p → if k < o then (∃ b off, p.1.base = some ⟨b, off, none⟩) ∧ E ≤ p.1.cap ∧ p.2 = flatRow E k else p = (⟨none, 0⟩, [])
theorem FlatPre.next {E o : Nat} {L : List DCell} {l : SX.Loc} (h : FlatPre E o L) (ho : o < E) (hl : ∃ b off, l.base = some ⟨b, off, none⟩) (hc : E ≤ l.cap) : FlatPre E (o + 1) (L.set o (l, flatRow E o)) := by
  refine ⟨by rw [List.length_set]; exact h.len, fun k p hp => ?_⟩
  rw [List.getElem?_set] at hp
  by_cases e : o = k
  · rw [if_pos e, if_pos (by rw [h.len]; exact ho)] at hp
    have : (l, flatRow E o) = p := by simpa using hp
    subst this
    rw [if_pos (by omega)]
    exact ⟨hl, hc, by rw [e]⟩
  · rw [if_neg e] at hp
    have := h.is k p hp
    by_cases g : k < o
    · rw [if_pos g] at this; rw [if_pos (by omega)]; exact this
    · rw [if_neg g] at this; rw [if_neg (by omega)]; exact this
theorem FlatPre.take {E o : Nat} {L : List DCell} {l : SX.Loc} {x : List Int} (h : FlatPre E o L) (ho : o < E) : (L.set o (l, x)).take (o + 1) = L.take o ++ [(l, x)] := by
  have hl : o < L.length := by rw [h.len]; exact ho
  rw [List.take_succ_eq_append_getElem (by rw [List.length_set]; exact hl), List.getElem_set_self, List.take_set_of_le (Nat.le_refl _)]
theorem drows_snoc (L : List DCell) (l : SX.Loc) (x : List Int) {m k : Nat} (hm : m = L.length) (hk : k = x.length) {i : Nat} {T : TypeId} {H : Heap} : (i, Ent.rows (dRows (L ++ [(l, x)])) 1 T) ∈ (i, Ent.rows (List.take m (dRows L) ++ [[.slice l.base k l.cap]]) 1 T) :: H := by
  subst hm hk
  rw [show dRows (L ++ [(l, x)]) = List.take L.length (dRows L) ++ [[.slice l.base x.length l.cap]] by rw [List.take_of_length_le (by rw [dRows_length]; exact Nat.le_refl _)]; simp [dRows, dRow]]
  exact List.mem_cons_self
theorem add_frameM (b off k : Nat) : (⟨b, off, none⟩ : Addr).add (k * 1) = ⟨b, off + k, none⟩ := by simp [Addr.add]
theorem flatRow_len (E o : Nat) : (flatRow E o).length = E := by simp [flatRow]
set_option maxRecDepth 20000 in
set_option maxHeartbeats 8000000 in
theorem refRows_flat (w : World) (n : NodeV) (t : IntsV) (hn : n.ok w) (hsm : n.small) (ht : t.ok w) (hok : okRows n t) (h9 : n.kind = 9) : Calls Try.prog 36 #[n.valA, t.val] w (RowsPost w (rowsR n t)) := by
  obtain ⟨s, hsh, hcs, hR⟩ := rows_in hok
  have hfc := flat_cnt hR hok.2.1 h9
  rw [rowsR, if_pos hok]
  obtain ⟨E, hce⟩ : ∃ c, cntR n t = c := ⟨_, rfl⟩
  rw [hce] at hcs hR hfc ⊢
  have ha := hok.2.1
  have hcnt := hR.place.few
  have hE : entries t.xs = (E : Int) := by have := hR.size; omega
  rw [flat_rowsW h9 hfc, flat_bias h9]
  refine calls_of tab tabOk Try.func36 rfl rfl rfl [] (fun _ => ⟨none, 0⟩) [.agg [.c (.int .i64 n.kind), .c (.int .i64 n.a), .c (.int .i64 n.b), .c n.shape.val, .c (.int .i64 n.lo), .c (.int .i64 n.hi), .c (.int .i64 n.size), .c n.data.val, .c n.bias.val], .c t.val] [] (baseA w) 0 rfl rfl (by show 2 ≤ _; decide) (abs_base w) ?_
  (repeat' ((conv => whnf) <;> first | (show drawK _ 18 _ _ _ _ _ _; (refine draw_tree tabOk mixed [] _ (.take 0 (.take 1 (.take 3 (.one 2 (.take 4 (.take 5 (.done))))))) (by kernel_rfl) (by kernel_rfl) (by kernel_rfl) (List.Sublist.refl _) ?_)) | (show Wp _ _ _ _ _ _ _; (refine Wp.go tabOk rfl ?_)) | (show @cmpK _ _ _; (first | refine cmp_yes (by omega) ?_ | refine cmp_no (by omega) ?_ | (refine cmp_both ?_ ?_ <;> intro _))) | (show wrapK _ _ _; (refine wrap_i64 (by omega) (by omega) ?_)) | (show leK _ _ _; (refine le_of (by first | exact Nat.le_refl _ | omega) ?_)) | (show roomK _ _ _; (refine room_of (by first | omega | (dsimp only; omega)) ?_)) | (show ltK _ _ _; (refine lt_of (by omega) ?_)) | (show _ ∧ _; (refine ⟨?_, ?_⟩)) | (show keepK _ _ _ _ _; (refine keep_of (by first | exact List.Sublist.refl _ | exact List.Sublist.cons _ (List.Sublist.refl _) | exact List.Sublist.cons _ (List.Sublist.cons _ (List.Sublist.refl _)) | exact List.Sublist.cons _ (List.Sublist.cons _ (List.Sublist.cons _ (List.Sublist.refl _)))) (by first | exact (fun _ _ h => h) | exact (fun _ _ h => h.1) | exact (fun _ _ h => h.1.1)) ?_)) | (show apK _ _; (refine ap_old ?_))))
  all_goals first | (exfalso; omega) | skip
  (repeat' ((conv => whnf) <;> first | (show drawK _ 18 _ _ _ _ _ _; (refine draw_tree tabOk mixed [] _ (.take 0 (.take 1 (.take 3 (.one 2 (.take 4 (.take 5 (.done))))))) (by kernel_rfl) (by kernel_rfl) (by kernel_rfl) (List.Sublist.refl _) ?_)) | (show Wp _ _ _ _ _ _ _; (refine Wp.go tabOk rfl ?_)) | (show @cmpK _ _ _; (first | refine cmp_yes (by omega) ?_ | refine cmp_no (by omega) ?_ | (refine cmp_both ?_ ?_ <;> intro _))) | (show wrapK _ _ _; (refine wrap_i64 (by omega) (by omega) ?_)) | (show leK _ _ _; (refine le_of (by first | exact Nat.le_refl _ | omega) ?_)) | (show roomK _ _ _; (refine room_of (by first | omega | (dsimp only; omega)) ?_)) | (show ltK _ _ _; (refine lt_of (by omega) ?_)) | (show _ ∧ _; (refine ⟨?_, ?_⟩)) | (show keepK _ _ _ _ _; (refine keep_of (by first | exact List.Sublist.refl _ | exact List.Sublist.cons _ (List.Sublist.refl _) | exact List.Sublist.cons _ (List.Sublist.cons _ (List.Sublist.refl _)) | exact List.Sublist.cons _ (List.Sublist.cons _ (List.Sublist.cons _ (List.Sublist.refl _)))) (by first | exact (fun _ _ h => h) | exact (fun _ _ h => h.1) | exact (fun _ _ h => h.1.1)) ?_)) | (show apK _ _; (refine ap_old ?_))))
  refine own_freeze 0 (fun _ _ _ _ hb => absurd hb (Nat.not_lt_zero _)) (fun l1 hl1 => ?_)
  (repeat' ((conv => whnf) <;> first | (show callK _ 38 _ _ _ _ _; (refine call_check3 (f := 38) (chk2 n t) Try.call38 (fun ρ w' hw => by have := refCheck_any w' ⟨l1.base, l1.cap, [inN t, n], 1⟩ (holds_of_abs hw fun R h => g2_ok (hn.later h.1) hsm (ht.later h.1) h.2); rw [chk2_eq] at this; exact this) (fun hne => absurd hok.2.2 hne) (fun he sv hm hsv hsb => ?_))) | (show @cmpK _ _ _; (first | refine cmp_yes (by omega) ?_ | refine cmp_no (fun h => h rfl) ?_ | refine cmp_no (fun h => h h9) ?_)) | (show callK _ 34 _ _ _ _ _; (refine call_pure (f := 34) Try.call34 (.int .i64 (E : Nat)) (fun ρ w' hw => by have := refEntries_any w' t.base t.cap t.xs (holds_of_abs hw fun R h => rows_base h.1.1 ht.rows); rw [hE] at this; exact this) ?_)) | (show drawK _ 18 _ _ _ _ _ _; (refine draw_tree tabOk mixed [] _ (.take 0 (.take 1 (.take 3 (.one 2 (.take 4 (.take 5 (.done))))))) (by kernel_rfl) (by kernel_rfl) (by kernel_rfl) (List.Sublist.refl _) ?_)) | (show Wp _ _ _ _ _ _ _; (refine Wp.go tabOk rfl ?_)) | (show @cmpK _ _ _; (first | refine cmp_yes (by omega) ?_ | refine cmp_no (by omega) ?_ | (refine cmp_both ?_ ?_ <;> intro _))) | (show wrapK _ _ _; (refine wrap_i64 (by omega) (by omega) ?_)) | (show leK _ _ _; (refine le_of (by first | exact Nat.le_refl _ | omega) ?_)) | (show roomK _ _ _; (refine room_of (by first | omega | (dsimp only; omega)) ?_)) | (show ltK _ _ _; (refine lt_of (by omega) ?_)) | (show _ ∧ _; (refine ⟨?_, ?_⟩)) | (show keepK _ _ _ _ _; (refine keep_of (by first | exact List.Sublist.refl _ | exact List.Sublist.cons _ (List.Sublist.refl _) | exact List.Sublist.cons _ (List.Sublist.cons _ (List.Sublist.refl _)) | exact List.Sublist.cons _ (List.Sublist.cons _ (List.Sublist.cons _ (List.Sublist.refl _)))) (by first | exact (fun _ _ h => h) | exact (fun _ _ h => h.1) | exact (fun _ _ h => h.1.1)) ?_)) | (show apK _ _; (refine ap_old ?_))))
  all_goals (conv => whnf)
  refine Wp.grp 3 E ?_
  refine Wp.loop (σ := Nat × List DCell) 6 (fun x => [(12, .c (.int .i64 (E : Nat))), (13, .os 5 x.1), (14, .c (.int .i64 x.1))]) (fun x => [(5, .rows (dRows (x.2.take x.1)) 1 33), (3, .ext (grpO 3 (dGrp x.2)))]) (fun _ => baseA w)
    (fun x => x.1 ≤ E ∧ FlatPre E x.1 x.2) (fun x => E - x.1) (0, nilD E) [(5, none)] (by decide) (fun _ => ⟨rfl, rfl⟩)
    ⟨Nat.zero_le _, by simp [nilD], fun k p hp => by rw [if_neg (Nat.not_lt_zero k)]; exact (List.mem_replicate.1 (List.mem_of_getElem? hp)).2⟩ ⟨rfl, ⟨rfl, rfl, rfl, trivial⟩, ⟨rfl, ?_, trivial⟩, fun _ _ h => h.1.1⟩ ?_
  · show (3, Ent.ext (grpO 3 (dGrp (nilD E)))) ∈ _
    rw [dGrp_nil]
    exact (by repeat (first | exact List.mem_cons_self | apply List.mem_cons_of_mem))
  rintro ⟨o, L⟩ ⟨ho, hL⟩
  dsimp only at ho hL
  by_cases hoE : o < E
  · have hoL : o < L.length := by rw [hL.len]; exact hoE
    have hq : L[o]? = some (⟨none, 0⟩, []) := by
      have h1 : L[o]? = some L[o] := List.getElem?_eq_getElem hoL
      have := hL.is o _ h1
      rw [if_neg (Nat.lt_irrefl o)] at this
      rw [h1, this]
    (repeat' ((conv => whnf) <;> first | (show makeK _ _ _ _; (refine make_of E rfl rfl (by show 8 * _ ≤ _; omega) (by omega) ?_)) | (show drawK _ 18 _ _ _ _ _ _; (refine draw_tree tabOk mixed [] _ (.take 0 (.take 1 (.take 3 (.one 2 (.take 4 (.take 5 (.done))))))) (by kernel_rfl) (by kernel_rfl) (by kernel_rfl) (List.Sublist.refl _) ?_)) | (show Wp _ _ _ _ _ _ _; (refine Wp.go tabOk rfl ?_)) | (show @cmpK _ _ _; (first | refine cmp_yes (by omega) ?_ | refine cmp_no (by omega) ?_ | (refine cmp_both ?_ ?_ <;> intro _))) | (show wrapK _ _ _; (refine wrap_i64 (by omega) (by omega) ?_)) | (show leK _ _ _; (refine le_of (by first | exact Nat.le_refl _ | omega) ?_)) | (show roomK _ _ _; (refine room_of (by first | omega | (dsimp only; omega)) ?_)) | (show ltK _ _ _; (refine lt_of (by omega) ?_)) | (show _ ∧ _; (refine ⟨?_, ?_⟩)) | (show keepK _ _ _ _ _; (refine keep_of (by first | exact List.Sublist.refl _ | exact List.Sublist.cons _ (List.Sublist.refl _) | exact List.Sublist.cons _ (List.Sublist.cons _ (List.Sublist.refl _)) | exact List.Sublist.cons _ (List.Sublist.cons _ (List.Sublist.cons _ (List.Sublist.refl _)))) (by first | exact (fun _ _ h => h) | exact (fun _ _ h => h.1) | exact (fun _ _ h => h.1.1)) ?_)) | (show apK _ _; (refine ap_old ?_))))
    all_goals (conv => whnf)
    refine own_group (T := 3) (g := 3) (d := o) (us := []) (l0 := ⟨none, 0⟩) (L := dGrp L) (vs := List.replicate E (.int .i64 0)) ?_ (dGrp_get hq) rfl rfl (by rw [oneRows, List.map_replicate]) (by rw [List.length_replicate]; omega) (fun l hlc hlb => ?_)
    · exact (by repeat (first | exact List.mem_cons_self | apply List.mem_cons_of_mem))
    rw [List.length_replicate] at hlc
    have hnext := hL.next hoE hlb hlc
    have htake := hL.take (l := l) (x := flatRow E o) hoE
    obtain ⟨b, off, hlb⟩ := hlb
    have hgs : ((dGrp L).set o (l, List.replicate E (.int .i64 0)))[o]? = some (l, List.replicate E (.int .i64 0)) := List.getElem?_set_self (by rw [dGrp, List.length_map]; exact hoL)
    have eg : dGrp (L.set o (l, flatRow E o)) = ((dGrp L).set o (l, List.replicate E (.int .i64 0))).set o (l, (List.replicate E (Value.int .i64 0)).set o (.int .i64 1)) := by
      rw [dGrp_set, List.set_set]; simp [flatRow, List.map_set]
    (repeat' ((conv => whnf) <;> first | (show idxK _ _ _ _ _; (refine idx_of ⟨b, off, none⟩ o hlb rfl (by omega) ?_)) | (show wrK _ _ _ _ _; (refine wr_group (g := 3) (d := o) (s := o) (l := l) (vs := List.replicate E (.int .i64 0)) (List.mem_cons_of_mem _ List.mem_cons_self : (3, Ent.ext (grpO 3 ((dGrp L).set o (l, List.replicate E (.int .i64 0))))) ∈ [(5, Ent.rows (dRows (L.take o)) 1 33), (3, Ent.ext (grpO 3 ((dGrp L).set o (l, List.replicate E (.int .i64 0)))))]) hgs hlb (by rw [List.length_replicate]; omega) (add_frameM b off o) ?_)) | (show leK _ _ _; (refine le_of (by first | exact Nat.le_refl _ | (rw [dRows_length, List.length_take]; exact Nat.le_min.2 ⟨Nat.le_refl _, Nat.le_of_lt hoL⟩)) ?_)) | (show roomK _ _ _; (first | refine room_of (show (o + 1) * 24 ≤ 140737488355328 by omega) ?_ | refine room_of (show 1 * 24 ≤ 140737488355328 by decide) ?_)) | (show drawK _ 18 _ _ _ _ _ _; (refine draw_tree tabOk mixed [] _ (.take 0 (.take 1 (.take 3 (.one 2 (.take 4 (.take 5 (.done))))))) (by kernel_rfl) (by kernel_rfl) (by kernel_rfl) (List.Sublist.refl _) ?_)) | (show Wp _ _ _ _ _ _ _; (refine Wp.go tabOk rfl ?_)) | (show @cmpK _ _ _; (first | refine cmp_yes (by omega) ?_ | refine cmp_no (by omega) ?_ | (refine cmp_both ?_ ?_ <;> intro _))) | (show wrapK _ _ _; (refine wrap_i64 (by omega) (by omega) ?_)) | (show leK _ _ _; (refine le_of (by first | exact Nat.le_refl _ | omega) ?_)) | (show roomK _ _ _; (refine room_of (by first | omega | (dsimp only; omega)) ?_)) | (show ltK _ _ _; (refine lt_of (by omega) ?_)) | (show _ ∧ _; (refine ⟨?_, ?_⟩)) | (show keepK _ _ _ _ _; (refine keep_of (by first | exact List.Sublist.refl _ | exact List.Sublist.cons _ (List.Sublist.refl _) | exact List.Sublist.cons _ (List.Sublist.cons _ (List.Sublist.refl _)) | exact List.Sublist.cons _ (List.Sublist.cons _ (List.Sublist.cons _ (List.Sublist.refl _)))) (by first | exact (fun _ _ h => h) | exact (fun _ _ h => h.1) | exact (fun _ _ h => h.1.1)) ?_)) | (show ownK _ _ _ _ _; (refine own_keep ?_)) | (show apK _ _; (refine ap_old ?_))))
    all_goals (conv => whnf)
    refine ⟨(o + 1, L.set o (l, flatRow E o)), [(5, some 8)], ⟨hoE, hnext⟩, by show E - (o + 1) < E - o; omega, rfl, ⟨rfl, rfl, rfl, trivial⟩, ⟨?_, ?_, trivial⟩, fun _ _ h => h⟩
    · show (8, Ent.rows (dRows ((L.set o (l, flatRow E o)).take (o + 1))) 1 33) ∈ _
      rw [htake]
      exact drows_snoc _ _ _ (by rw [List.length_take]; exact (Nat.min_eq_left (Nat.le_of_lt hoL)).symm) (flatRow_len E o).symm
    · show (3, Ent.ext (grpO 3 (dGrp (L.set o (l, flatRow E o))))) ∈ _
      rw [eg]
      exact (by repeat (first | exact List.mem_cons_self | apply List.mem_cons_of_mem))
  · have hoe : o = E := by omega
    subst hoe
    have htk : L.take o = L := List.take_of_length_le (by rw [hL.len]; exact Nat.le_refl _)
    rw [htk]
    have hall : ∀ p ∈ L, ∃ k, k < o ∧ (∃ b off, p.1.base = some ⟨b, off, none⟩) ∧ o ≤ p.1.cap ∧ p.2 = flatRow o k := fun p hp => by
      obtain ⟨k, hk⟩ := List.mem_iff_getElem?.1 hp
      have hkl := (List.getElem?_eq_some_iff.1 hk).1
      rw [hL.len] at hkl
      have := hL.is k p hk
      rw [if_pos hkl] at this
      exact ⟨k, hkl, this⟩
    have hrows : L.map Prod.snd = (List.range o).map (flatRow o) := by
      apply List.ext_getElem
      · simp [hL.len]
      · intro k h1 h2
        have hk : k < L.length := by simpa using h1
        have := hL.is k _ (List.getElem?_eq_getElem hk)
        rw [if_pos (by rw [← hL.len]; exact hk)] at this
        simp [this.2.2]
    have hfl : ∀ k, ∀ x ∈ flatRow o k, i64 x := fun k x hx => by
      rcases List.mem_or_eq_of_mem_set hx with hx | hx
      · rw [(List.mem_replicate.1 hx).2]; exact ⟨by decide, by decide⟩
      · rw [hx]; exact ⟨by decide, by decide⟩
    (repeat' ((conv => whnf) <;> first | (show makeK _ _ _ _; (refine make_of o rfl rfl (by show 8 * _ ≤ _; omega) (by omega) ?_)) | (show drawK _ 18 _ _ _ _ _ _; (refine draw_tree tabOk mixed [] _ (.take 0 (.take 1 (.take 3 (.one 2 (.take 4 (.take 5 (.done))))))) (by kernel_rfl) (by kernel_rfl) (by kernel_rfl) (List.Sublist.refl _) ?_)) | (show Wp _ _ _ _ _ _ _; (refine Wp.go tabOk rfl ?_)) | (show @cmpK _ _ _; (first | refine cmp_yes (by omega) ?_ | refine cmp_no (by omega) ?_ | (refine cmp_both ?_ ?_ <;> intro _))) | (show wrapK _ _ _; (refine wrap_i64 (by omega) (by omega) ?_)) | (show leK _ _ _; (refine le_of (by first | exact Nat.le_refl _ | omega) ?_)) | (show roomK _ _ _; (refine room_of (by first | omega | (dsimp only; omega)) ?_)) | (show ltK _ _ _; (refine lt_of (by omega) ?_)) | (show _ ∧ _; (refine ⟨?_, ?_⟩)) | (show keepK _ _ _ _ _; (refine keep_of (by first | exact List.Sublist.refl _ | exact List.Sublist.cons _ (List.Sublist.refl _) | exact List.Sublist.cons _ (List.Sublist.cons _ (List.Sublist.refl _)) | exact List.Sublist.cons _ (List.Sublist.cons _ (List.Sublist.cons _ (List.Sublist.refl _)))) (by first | exact (fun _ _ h => h) | exact (fun _ _ h => h.1) | exact (fun _ _ h => h.1.1)) ?_)) | (show ownK _ _ _ _ _; (refine own_keep ?_)) | (show apK _ _; (refine ap_old ?_))))
    all_goals (conv => whnf)
    exact rows_end (i := 5) (g := 3) (j := 6) (bs := List.replicate o 0) (fun _ _ h => h) rfl (fun p hp => by obtain ⟨k, hk, h1, h2, h3⟩ := hall p hp; exact .inr ⟨h1, fun e => by rw [e] at h3; have := congrArg List.length h3; rw [flatRow_len] at this; simp at this; omega, by rw [h3, flatRow_len]; exact h2⟩) (fun p hp => by obtain ⟨k, hk, h1, h2, h3⟩ := hall p hp; rw [h3]; exact ⟨hfl k, by rw [flatRow_len]; omega⟩) hL.len.symm (by simp) (fun x hx => by rw [(List.mem_replicate.1 hx).2]; exact ⟨by decide, by decide⟩) (by simp; omega) (by repeat (first | exact List.mem_cons_self | apply List.mem_cons_of_mem)) (by repeat (first | exact List.mem_cons_self | apply List.mem_cons_of_mem)) (by rw [show ints (List.replicate o 0) = List.replicate o [Value.int .i64 0] by simp [ints]]; exact (by repeat (first | exact List.mem_cons_self | apply List.mem_cons_of_mem))) (by rw [hrows])
theorem refRows_any (w : World) (n : NodeV) (t : IntsV) (hn : n.ok w) (hsm : n.small) (ht : t.ok w) : Calls Try.prog 36 #[n.valA, t.val] w (RefPost w n (rowsR n t)) := by
  by_cases hok : okRows n t
  · rcases hok.1 with hl | h9
    · exact refRows_lin w n t hn hsm ht hok hl
    · exact (refRows_flat w n t hn hsm ht hok h9).mono fun e w' h => ref_of_rows h
  · exact (refRows_no w n t hn hsm ht hok).mono fun e w' h => ref_of_rows h
end Go.Proofs.Ytdmkdogakbipbaa

/- LQ -/
namespace Go.Proofs.Ytdmkdogakbipbaa
open Go.RowKit Go.SX
instance (rows : List (List Int)) (fr to : List Int) (slots : Int) : Decidable (diagOk rows fr to slots) := by unfold diagOk; infer_instance
def diagL (rows : List (List Int)) (fr to : List Int) (slots : Int) : List (List Int) × Int := if diagOk rows fr to slots then (outerD slots.toNat rows fr to to.length, 0) else ([], 3)
theorem diag_fail2 {w : World} {B : Base} {H : Heap} {S : Asn} {nx : Nat} {rows : List (List Int)} {fr to : List Int} {slots : Int} (hno : ¬ diagOk rows fr to slots) (hb : ∀ R w', S.holds R w' → (baseA B.w0).holds R w') (hw0 : B.w0 = w) : finK B (.tup [.c (.slice none 0 0), .c (.int .i64 3)]) H S nx (DiagPost w (diagL rows fr to slots).1 (diagL rows fr to slots).2) := by
  rw [diagL, if_neg hno]; exact diag_fail hb hw0
theorem containsOff_own {B : Base} {ρ : Nat → SX.Loc} {nx : Nat} {H : Heap} {S : Asn} {w : World} {T : TypeId} {fv : IntsV} (hw : Abs B ρ nx H S w) (he : (0, Ent.box [.c fv.val] T) ∈ H) (rv : ShapesV) (hr : rv.okB w) :
    Calls Try.prog 61 (SV.rfs ρ [.c rv.val, .fn (.func 62) [] [.lp 0 0 0 0]]).toArray w fun e w' => e = .returned (.bool (rv.l.any fun u => decide (u.xs.length ≠ fv.xs.length))) ∧ Ext w w' := by
  obtain ⟨R, φ, hw⟩ := hw
  obtain ⟨b, h1, h2, h3⟩ := hw.ent _ he
  simp only at h1
  have ha : (SV.rfs ρ [.c rv.val, .fn (.func 62) [] [.lp 0 0 0 0]]).toArray = #[rv.val, .func (.func 62) #[] #[.pointer (some ⟨b, 0, none⟩)]] := by
    simp [SV.rfs, SV.rf, h1, Addr.add]
  rw [ha]
  exact containsOff_any w rv hr ⟨b, 0, none⟩ fv.base fv.xs.length fv.cap (by simp [World.cell?, h3, SV.rfs, SV.rf, IntsV.val])
theorem off_all {l : List IntsV} {n : Nat} (h : (l.any fun u => decide (u.xs.length ≠ n)) = false) : ∀ r ∈ l.map IntsV.xs, r.length = n := by
  intro r hr
  obtain ⟨u, hu, rfl⟩ := List.mem_map.1 hr
  have := List.any_eq_false.1 h u hu
  simpa using this
theorem off_some {l : List IntsV} {n : Nat} (h : (l.any fun u => decide (u.xs.length ≠ n)) = true) (hall : ∀ r ∈ l.map IntsV.xs, r.length = n) : False := by
  obtain ⟨u, hu, hx⟩ := List.any_eq_true.1 h
  exact absurd (hall _ (List.mem_map.2 ⟨u, hu, rfl⟩)) (by simpa using hx)
theorem rem_is {x y z : Int} {K : Int → Prop} (h0 : 0 ≤ x) (hy : y ≠ 0) (e : x % y = z) (h : K z) : remK x y K := rem_pos h0 hy (by rw [e]; exact h)
theorem add_frame (b off k : Nat) : (⟨b, off, none⟩ : Addr).add (k * 1) = ⟨b, off + k, none⟩ := by simp [Addr.add]
theorem setD_fits {L : List DCell} {d : Nat} {p : DCell} (h : ∀ p ∈ L, ∀ x ∈ p.2, i64 x) (hp : ∀ x ∈ p.2, i64 x) : ∀ q ∈ L.set d p, ∀ x ∈ q.2, i64 x := fun q hq => by
  rcases List.mem_or_eq_of_mem_set hq with hq | hq
  · exact h q hq
  · rw [hq]; exact hp
theorem set_fits {l : List Int} {k : Nat} {x : Int} (h : ∀ y ∈ l, i64 y) (hx : i64 x) : ∀ y ∈ l.set k x, i64 y := fun y hy => by
  rcases List.mem_or_eq_of_mem_set hy with hy | hy
  · exact h y hy
  · rw [hy]; exact hx
theorem getD_fits {l : List Int} (h : ∀ y ∈ l, i64 y) (k : Nat) : i64 (l.getD k 0) := by
  rcases Nat.lt_or_ge k l.length with g | g
  · have e : l.getD k 0 = l[k] := by simp [List.getD, g]
    rw [e]; exact h _ (List.getElem_mem g)
  · have e : l.getD k 0 = 0 := by simp [List.getD, g]
    rw [e]; exact ⟨by decide, by decide⟩
theorem repl_set (n s : Nat) (x : Int) : (List.replicate n (Value.int .i64 0)).set s (.int .i64 x) = ((List.replicate n (0 : Int)).set s x).map (Value.int .i64) := by simp [List.map_set]
theorem ro_iv {a : Addr} {j : Nat} {S : Asn} {xs : List Int} {v : Int} {K : SV → Prop} (hx : ∀ R w, S.holds R w → RowsI w (some a) 1 (ints xs)) (hj : j < xs.length) (e : xs.getD j 0 = v) (h : K (.c (.int .i64 v))) : roK (a.add (j * 1)) S K := by
  subst e; exact ro_int hx hj h
theorem List.set_eq_self {α : Type} {l : List α} {d : Nat} {x : α} (h : l[d]? = some x) : l.set d x = l := by
  apply List.ext_getElem?
  intro i
  rw [List.getElem?_set]
  split
  · rename_i e; subst e; split
    · exact h.symm
    · rw [List.getElem?_eq_none (by omega)]
  · rfl
set_option maxHeartbeats 2000000 in
theorem diag_any (w : World) (rv : ShapesV) (hr : rv.okB w) (fv tv : IntsV) (hfv : fv.ok w) (htv : tv.ok w) (slots : Int) (hs : i64 slots) :
    Calls Try.prog 31 #[rv.val, fv.val, tv.val, .int .i64 slots] w (DiagPost w (diagL (rv.l.map IntsV.xs) fv.xs tv.xs slots).1 (diagL (rv.l.map IntsV.xs) fv.xs tv.xs slots).2) := by
  have hr1 := hr.few
  have hf1 := hfv.few
  have ht1 := htv.few
  obtain ⟨hs1, hs2⟩ := hs
  have hrl : (rv.l.map IntsV.xs).length = rv.l.length := List.length_map _
  refine calls_of tab tabOk Try.func31 rfl rfl rfl [] (fun _ => ⟨none, 0⟩) [.c rv.val, .c fv.val, .c tv.val, .c (.int .i64 slots)] [] (baseA w) 0 rfl rfl (by show 4 ≤ _; decide) (abs_base w) ?_
  (repeat' ((conv => whnf) <;> first | (show callK _ 60 [.c fv.val, .c (.int .i64 slots)] _ _ _ _; (refine call_bool (f := 60) Try.call60 _ (fun ρ w' hw => places_any w' fv (holds_of_abs hw fun R h => hfv.later h) slots) (fun hp1 => ?_) (fun hp1 => ?_))) | (show callK _ 60 [.c tv.val, .c (.int .i64 slots)] _ _ _ _; (refine call_bool (f := 60) Try.call60 _ (fun ρ w' hw => places_any w' tv (holds_of_abs hw fun R h => htv.later h) slots) (fun hp2 => ?_) (fun hp2 => ?_))) | (show callK _ 61 _ _ _ _ _; (refine call_bool (f := 61) Try.call61 _ (fun ρ w' hw => containsOff_own (fv := fv) hw (by repeat (first | exact List.mem_cons_self | apply List.mem_cons_of_mem)) rv (holds_of_abs hw fun R h => hr.later h)) (fun hp3 => ?_) (fun hp3 => ?_))) | (show makeK _ _ _ _; (refine make_of slots.toNat (by omega) (by omega) (by show 24 * _ ≤ _; omega) (by omega) ?_)) | (show Wp _ _ _ _ _ _ _; (refine Wp.go tabOk rfl ?_)) | (show @cmpK _ _ _; (first | refine cmp_yes (by omega) ?_ | refine cmp_no (by omega) ?_ | (refine cmp_both ?_ ?_ <;> intro _))) | (show wrapK _ _ _; (refine wrap_i64 (by omega) (by omega) ?_)) | (show leK _ _ _; (refine le_of (by first | exact Nat.le_refl _ | omega) ?_)) | (show roomK _ _ _; (refine room_of (by first | omega | (dsimp only; omega)) ?_)) | (show ltK _ _ _; (refine lt_of (by omega) ?_)) | (show _ ∧ _; (refine ⟨?_, ?_⟩)) | (show keepK _ _ _ _ _; (refine keep_of (by first | exact List.Sublist.refl _ | exact List.Sublist.cons _ (List.Sublist.refl _) | exact List.Sublist.cons _ (List.Sublist.cons _ (List.Sublist.refl _)) | exact List.Sublist.cons _ (List.Sublist.cons _ (List.Sublist.cons _ (List.Sublist.refl _)))) (by first | exact (fun _ _ h => h) | exact (fun _ _ h => h.1) | exact (fun _ _ h => h.1.1)) ?_)) | (show ownK _ _ _ _ _; (refine own_keep ?_)) | (show apK _ _; (refine ap_old ?_))))
  all_goals (conv => whnf)
  all_goals first | exact diag_fail2 (fun h => by have := h.1; have := h.2.1; have := h.2.2.1; omega) (fun _ _ h => h) rfl | exact diag_fail2 (fun h => Bool.false_ne_true (hp1.symm.trans h.2.2.2.1)) (fun _ _ h => h) rfl | exact diag_fail2 (fun h => Bool.false_ne_true (hp2.symm.trans h.2.2.2.2.1)) (fun _ _ h => h) rfl | exact diag_fail2 (fun h => off_some hp3 h.2.2.2.2.2) (fun _ _ h => h) rfl | skip
  have hok : diagOk (rv.l.map IntsV.xs) fv.xs tv.xs slots := ⟨by omega, by omega, by omega, hp1, hp2, off_all hp3⟩
  rw [diagL, if_pos hok]
  obtain ⟨n, hn⟩ : ∃ n : Nat, slots = n := ⟨slots.toNat, by omega⟩
  subst hn
  rw [Int.toNat_natCast]
  have hfr := (placesL_of hp1).1
  have hto := (placesL_of hp2).1
  refine Wp.grp 3 n ?_
  refine Wp.loop (σ := Nat × List DCell) 3 (fun s => [(0, .c rv.val), (3, .c (.int .i64 n)), (5, .lp 0 0 0 0), (10, .os 1 n), (49, .c tv.val), (50, .c (.int .i64 tv.xs.length)), (51, .c (.int .i64 s.1))])
    (fun s => [(0, .box [.c fv.val] 33), (1, .rows (dRows s.2) 1 33), (2, .ext (grpO 3 (dGrp s.2)))]) (fun _ => baseA w)
    (fun s => DOk n s.2 ∧ (∀ p ∈ s.2, ∀ x ∈ p.2, i64 x) ∧ s.2.map Prod.snd = outerD n (rv.l.map IntsV.xs) fv.xs tv.xs s.1 ∧ s.1 ≤ tv.xs.length) (fun s => tv.xs.length - s.1) (0, nilD n) [] (by decide) (fun s => ⟨rfl, rfl⟩)
    ⟨nilD_ok n, (fun p hp x hx => by rw [(List.mem_replicate.1 hp).2] at hx; cases hx), by rw [nilD_snd]; rfl, Nat.zero_le _⟩ ⟨rfl, ⟨rfl, rfl, rfl, rfl, rfl, rfl, rfl, trivial⟩, ?_, fun _ _ h => h⟩ ?_
  · show heapInto [] _ [(0, .box [.c fv.val] 33), (1, .rows (dRows (nilD n)) 1 33), (2, .ext (grpO 3 (dGrp (nilD n))))]
    rw [dRows_nil, dGrp_nil]
    exact ⟨(by repeat (first | exact List.mem_cons_self | apply List.mem_cons_of_mem)), (by repeat (first | exact List.mem_cons_self | apply List.mem_cons_of_mem)), (by repeat (first | exact List.mem_cons_self | apply List.mem_cons_of_mem)), trivial⟩
  rintro ⟨o, L⟩ ⟨hL, hLf, hLs, hol⟩
  dsimp only at hL hLf hLs hol
  by_cases hlt : o < tv.xs.length
  · obtain ⟨ta, hta⟩ := htv.base (by omega)
    have htr : ∀ (R : Nat → Prop) w', (baseA w).holds R w' → RowsI w' (some ta) 1 (ints tv.xs) := fun R w' h => by rw [← hta]; exact rows_base h htv.rows
    have hrlt : o < rv.l.length := by omega
    have hsb : 0 ≤ tv.xs.getD o 0 ∧ tv.xs.getD o 0 < n := by
      have e : tv.xs.getD o 0 = tv.xs[o] := by simp [List.getD, hlt]
      rw [e]; exact hto _ (List.getElem_mem hlt)
    obtain ⟨sv, hsv⟩ : ∃ sv, tv.xs.getD o 0 = sv := ⟨_, rfl⟩
    (repeat' ((conv => whnf) <;> first | (show idxK _ _ _ _ _; (refine idx_of ta o hta rfl hlt ?_)) | (show roK _ _ _; (refine ro_int htr (j := o) hlt ?_)) | (show Wp _ _ _ _ _ _ _; (refine Wp.go tabOk rfl ?_)) | (show @cmpK _ _ _; (first | refine cmp_yes (by omega) ?_ | refine cmp_no (by omega) ?_ | (refine cmp_both ?_ ?_ <;> intro _))) | (show wrapK _ _ _; (refine wrap_i64 (by omega) (by omega) ?_)) | (show leK _ _ _; (refine le_of (by first | exact Nat.le_refl _ | omega) ?_)) | (show roomK _ _ _; (refine room_of (by first | omega | (dsimp only; omega)) ?_)) | (show ltK _ _ _; (refine lt_of (by omega) ?_)) | (show _ ∧ _; (refine ⟨?_, ?_⟩)) | (show keepK _ _ _ _ _; (refine keep_of (by first | exact List.Sublist.refl _ | exact List.Sublist.cons _ (List.Sublist.refl _) | exact List.Sublist.cons _ (List.Sublist.cons _ (List.Sublist.refl _)) | exact List.Sublist.cons _ (List.Sublist.cons _ (List.Sublist.cons _ (List.Sublist.refl _)))) (by first | exact (fun _ _ h => h) | exact (fun _ _ h => h.1) | exact (fun _ _ h => h.1.1)) ?_)) | (show ownK _ _ _ _ _; (refine own_keep ?_)) | (show apK _ _; (refine ap_old ?_))))
    all_goals (conv => whnf)
    have hrow : (rv.l.map IntsV.xs).getD o [] = rv.l[o].xs := by simp [List.getD, hrlt]
    have hrlen : rv.l[o].xs.length = fv.xs.length := off_all hp3 _ (List.mem_map.2 ⟨_, List.getElem_mem hrlt, rfl⟩)
    have hro := hr.each rv.l[o] (List.getElem_mem hrlt)
    obtain ⟨ra, hra⟩ : ∃ a, rv.base = some a := base_some (j := o) hr.rows (by rw [shRows_length]; exact hrlt)
    rw [hsv] at hsb ⊢
    refine Wp.loop (σ := Nat × List DCell) 3 (fun s => [(0, .c rv.val), (3, .c (.int .i64 n)), (5, .lp 0 0 0 0), (10, .os 1 n), (49, .c tv.val), (50, .c (.int .i64 tv.xs.length)), (51, .c (.int .i64 o)), (11, .c (.int .i64 o)), (12, .c (.int .i64 sv)), (56, .c fv.val), (57, .c (.int .i64 fv.xs.length)), (58, .c (.int .i64 s.1))])
      (fun s => [(0, .box [.c fv.val] 33), (1, .rows (dRows s.2) 1 33), (2, .ext (grpO 3 (dGrp s.2)))]) (fun _ => baseA w)
      (fun s => DOk n s.2 ∧ (∀ p ∈ s.2, ∀ x ∈ p.2, i64 x) ∧ s.2.map Prod.snd = innerD n fv.xs rv.l[o].xs sv (outerD n (rv.l.map IntsV.xs) fv.xs tv.xs o) s.1 ∧ s.1 ≤ fv.xs.length) (fun s => fv.xs.length - s.1) (0, L) [] (by decide) (fun s => ⟨rfl, rfl⟩)
      ⟨hL, hLf, hLs, Nat.zero_le _⟩ ⟨rfl, ⟨rfl, rfl, rfl, rfl, rfl, rfl, rfl, rfl, rfl, rfl, rfl, rfl, trivial⟩, ⟨(by repeat (first | exact List.mem_cons_self | apply List.mem_cons_of_mem)), (by repeat (first | exact List.mem_cons_self | apply List.mem_cons_of_mem)), (by repeat (first | exact List.mem_cons_self | apply List.mem_cons_of_mem)), trivial⟩, fun _ _ h => h⟩ ?_
    clear hL hLf hLs
    rintro ⟨i, M⟩ ⟨hM, hMf, hMs, hil⟩
    dsimp only at hM hMf hMs hil
    by_cases hli : i < fv.xs.length
    · obtain ⟨fa, hfa⟩ := hfv.base (by omega)
      have hfr' : ∀ (R : Nat → Prop) w', (baseA w).holds R w' → RowsI w' (some fa) 1 (ints fv.xs) := fun R w' h => by rw [← hfa]; exact rows_base h hfv.rows
      obtain ⟨wa, hwa⟩ := hro.base (by omega)
      have hwr : ∀ (R : Nat → Prop) w', (baseA w).holds R w' → RowsI w' (some wa) 1 (ints rv.l[o].xs) := fun R w' h => by rw [← hwa]; exact rows_base h hro.rows
      have hfb : 0 ≤ fv.xs.getD i 0 ∧ fv.xs.getD i 0 < n := by
        have e : fv.xs.getD i 0 = fv.xs[i] := by simp [List.getD, hli]
        rw [e]; exact hfr _ (List.getElem_mem hli)
      have hwf := getD_fits hro.fits i
      have hstep := innerD_succ n fv.xs rv.l[o].xs sv (outerD n (rv.l.map IntsV.xs) fv.xs tv.xs o) i
      rw [← hMs] at hstep
      obtain ⟨fi, hfi⟩ : ∃ x, fv.xs.getD i 0 = x := ⟨_, rfl⟩
      obtain ⟨wi, hwi⟩ : ∃ x, rv.l[o].xs.getD i 0 = x := ⟨_, rfl⟩
      rw [hfi] at hfb hstep
      rw [hwi] at hwf hstep
      by_cases hw0 : wi = 0
      · (repeat' ((conv => whnf) <;> first | (show idxK _ _ _ _ _; (first | refine idx_of fa i hfa rfl hli ?_ | refine idx_of ra o hra rfl hrlt ?_ | refine idx_of wa i hwa rfl (by omega) ?_)) | (show roK _ _ _; (first | refine ro_iv hfr' (j := i) hli hfi ?_ | refine ro_row0 (fun R w' h => by rw [← hra]; exact rows_base h hr.rows) _ _ (shRows_get hrlt) rfl ?_ | refine ro_iv hwr (j := i) (by omega) hwi ?_)) | (show Wp _ _ _ _ _ _ _; (refine Wp.go tabOk rfl ?_)) | (show @cmpK _ _ _; (first | refine cmp_yes (by omega) ?_ | refine cmp_no (by omega) ?_ | (refine cmp_both ?_ ?_ <;> intro _))) | (show wrapK _ _ _; (refine wrap_i64 (by omega) (by omega) ?_)) | (show leK _ _ _; (refine le_of (by first | exact Nat.le_refl _ | omega) ?_)) | (show roomK _ _ _; (refine room_of (by first | omega | (dsimp only; omega)) ?_)) | (show ltK _ _ _; (refine lt_of (by omega) ?_)) | (show _ ∧ _; (refine ⟨?_, ?_⟩)) | (show keepK _ _ _ _ _; (refine keep_of (by first | exact List.Sublist.refl _ | exact List.Sublist.cons _ (List.Sublist.refl _) | exact List.Sublist.cons _ (List.Sublist.cons _ (List.Sublist.refl _)) | exact List.Sublist.cons _ (List.Sublist.cons _ (List.Sublist.cons _ (List.Sublist.refl _)))) (by first | exact (fun _ _ h => h) | exact (fun _ _ h => h.1) | exact (fun _ _ h => h.1.1)) ?_)) | (show ownK _ _ _ _ _; (refine own_keep ?_)) | (show apK _ _; (refine ap_old ?_))))
        all_goals (conv => whnf)
        exact ⟨(i + 1, M), [], ⟨hM, hMf, by rw [hstep, stepP, if_pos hw0], hli⟩, by show fv.xs.length - (i + 1) < fv.xs.length - i; omega, rfl, ⟨rfl, rfl, rfl, rfl, rfl, rfl, rfl, rfl, rfl, rfl, rfl, rfl, trivial⟩, ⟨(by repeat (first | exact List.mem_cons_self | apply List.mem_cons_of_mem)), (by repeat (first | exact List.mem_cons_self | apply List.mem_cons_of_mem)), (by repeat (first | exact List.mem_cons_self | apply List.mem_cons_of_mem)), trivial⟩, fun _ _ h => h⟩
      · obtain ⟨d, hdd, hdn, hd0⟩ := dpos hsb hfb
        have hMd : d < M.length := by rw [hM.len]; exact hdn
        have hdl := dRows_length M
        obtain ⟨q, hq⟩ : ∃ q, M[d]? = some q := ⟨_, List.getElem?_eq_getElem hMd⟩
        have hqm := List.mem_of_getElem? hq
        obtain ⟨sn, hsn⟩ : ∃ k : Nat, sv = k := ⟨sv.toNat, by omega⟩
        have hsn2 : sv.toNat = sn := by omega
        rcases hM.each q hqm with ⟨e1, e2⟩ | ⟨⟨b, off, e1⟩, e2, e3⟩
        · obtain ⟨ql, qv⟩ := q
          simp only at e1 e2
          subst e1 e2
          (repeat' ((conv => whnf) <;> first | (show idxK _ _ _ _ _; (first | refine idx_of fa i hfa rfl hli ?_ | refine idx_of ra o hra rfl hrlt ?_ | refine idx_of wa i hwa rfl (by omega) ?_)) | (show roK _ _ _; (first | refine ro_iv hfr' (j := i) hli hfi ?_ | refine ro_row0 (fun R w' h => by rw [← hra]; exact rows_base h hr.rows) _ _ (shRows_get hrlt) rfl ?_ | refine ro_iv hwr (j := i) (by omega) hwi ?_)) | (show remK _ _ _; (refine rem_is hd0 (by omega) hdd ?_)) | (show idxRowK _ _ _ _ _ _; (refine idxRow_of d rfl hdn (Nat.le_of_eq (hdl.trans hM.len).symm) ?_)) | (show rowK _ _ _ _; (refine row_of _ _ (dRows_get hq) rfl ?_)) | (show pureK _ _ _; (refine nil_yes (ti 33 rfl) rfl ?_)) | (show makeK _ _ _ _; (refine make_of n rfl rfl (by show 8 * _ ≤ _; omega) (by omega) ?_)) | (show Wp _ _ _ _ _ _ _; (refine Wp.go tabOk rfl ?_)) | (show @cmpK _ _ _; (first | refine cmp_yes (by omega) ?_ | refine cmp_no (by omega) ?_ | (refine cmp_both ?_ ?_ <;> intro _))) | (show wrapK _ _ _; (refine wrap_i64 (by omega) (by omega) ?_)) | (show leK _ _ _; (refine le_of (by first | exact Nat.le_refl _ | omega) ?_)) | (show roomK _ _ _; (refine room_of (by first | omega | (dsimp only; omega)) ?_)) | (show ltK _ _ _; (refine lt_of (by omega) ?_)) | (show _ ∧ _; (refine ⟨?_, ?_⟩)) | (show keepK _ _ _ _ _; (refine keep_of (by first | exact List.Sublist.refl _ | exact List.Sublist.cons _ (List.Sublist.refl _) | exact List.Sublist.cons _ (List.Sublist.cons _ (List.Sublist.refl _)) | exact List.Sublist.cons _ (List.Sublist.cons _ (List.Sublist.cons _ (List.Sublist.refl _)))) (by first | exact (fun _ _ h => h) | exact (fun _ _ h => h.1) | exact (fun _ _ h => h.1.1)) ?_)) | (show apK _ _; (refine ap_old ?_))))
          all_goals (conv => whnf)
          refine own_group (g := 2) (d := d) (us := []) (l0 := ⟨none, 0⟩) (L := dGrp M) (vs := List.replicate n (.int .i64 0)) (by repeat (first | exact List.mem_cons_self | apply List.mem_cons_of_mem)) (dGrp_get hq) rfl rfl (by rw [oneRows, List.map_replicate]) (by rw [List.length_replicate]; omega) (fun l hlc hlb => ?_)
          rw [List.length_replicate] at hlc
          obtain ⟨b, off, hlb⟩ := hlb
          have hset : ((dRows M).set d [.slice l.base n l.cap])[d]? = some [.slice l.base n l.cap] := List.getElem?_set_self (by rw [hdl]; exact hMd)
          have hgs : ((dGrp M).set d (l, List.replicate n (.int .i64 0)))[d]? = some (l, List.replicate n (.int .i64 0)) := List.getElem?_set_self (by rw [dGrp, List.length_map]; exact hMd)
          (repeat' ((conv => whnf) <;> first | (show rowStoreK _ _ _ _ _; (refine rowStore_of _ (dRows_get hq) (by show 0 + 1 ≤ 1; omega) ?_)) | (show idxRowK _ _ _ _ _ _; (first | refine idxRow_of d rfl hdn (Nat.le_of_eq (hdl.trans hM.len).symm) ?_ | refine idxRow_of d rfl hdn (Nat.le_of_eq (by rw [List.length_set]; exact (hdl.trans hM.len).symm)) ?_)) | (show rowK _ _ _ _; (refine row_of _ _ hset rfl ?_)) | (show idxK _ _ _ _ _; (refine idx_of ⟨b, off, none⟩ sn hlb hsn (by omega) ?_)) | (show wrK _ _ _ _ _; (refine wr_group (g := 2) (d := d) (s := sn) (l := l) (vs := List.replicate n (.int .i64 0)) (by repeat (first | exact List.mem_cons_self | apply List.mem_cons_of_mem)) hgs hlb (by rw [List.length_replicate]; omega) (add_frame b off sn) ?_)) | (show Wp _ _ _ _ _ _ _; (refine Wp.go tabOk rfl ?_)) | (show @cmpK _ _ _; (first | refine cmp_yes (by omega) ?_ | refine cmp_no (by omega) ?_ | (refine cmp_both ?_ ?_ <;> intro _))) | (show wrapK _ _ _; (refine wrap_i64 (by omega) (by omega) ?_)) | (show leK _ _ _; (refine le_of (by first | exact Nat.le_refl _ | omega) ?_)) | (show roomK _ _ _; (refine room_of (by first | omega | (dsimp only; omega)) ?_)) | (show ltK _ _ _; (refine lt_of (by omega) ?_)) | (show _ ∧ _; (refine ⟨?_, ?_⟩)) | (show keepK _ _ _ _ _; (refine keep_of (by first | exact List.Sublist.refl _ | exact List.Sublist.cons _ (List.Sublist.refl _) | exact List.Sublist.cons _ (List.Sublist.cons _ (List.Sublist.refl _)) | exact List.Sublist.cons _ (List.Sublist.cons _ (List.Sublist.cons _ (List.Sublist.refl _)))) (by first | exact (fun _ _ h => h) | exact (fun _ _ h => h.1) | exact (fun _ _ h => h.1.1)) ?_)) | (show ownK _ _ _ _ _; (refine own_keep ?_)) | (show apK _ _; (refine ap_old ?_))))
          all_goals (conv => whnf)
          have eg : dGrp (M.set d (l, (List.replicate n 0).set sn wi)) = ((dGrp M).set d (l, List.replicate n (.int .i64 0))).set d (l, (List.replicate n (Value.int .i64 0)).set sn (.int .i64 wi)) := by rw [dGrp_set, List.set_set, repl_set]
          have er : dRows (M.set d (l, (List.replicate n 0).set sn wi)) = (dRows M).set d [.slice l.base n l.cap] := by rw [dRows_set]; simp [dRow, List.length_replicate]
          have hlenV : ((l, (List.replicate n 0).set sn wi) : DCell).2.length = n := by simp [List.length_replicate]
          refine ⟨(i + 1, M.set d (l, (List.replicate n 0).set sn wi)), [], ⟨hM.set (.inr ⟨⟨b, off, hlb⟩, hlenV, hlc⟩), setD_fits hMf (set_fits (fun y hy => by rw [(List.mem_replicate.1 hy).2]; exact ⟨by decide, by decide⟩) hwf), by rw [hstep]; rw [← step_new hq rfl hw0 hdd, hsn2], hli⟩, by show fv.xs.length - (i + 1) < fv.xs.length - i; omega, rfl, ⟨rfl, rfl, rfl, rfl, rfl, rfl, rfl, rfl, rfl, rfl, rfl, rfl, trivial⟩, ?_, fun _ _ h => h⟩
          show heapInto [] _ [(0, .box [.c fv.val] 33), (1, .rows (dRows (M.set d (l, (List.replicate n 0).set sn wi))) 1 33), (2, .ext (grpO 3 (dGrp (M.set d (l, (List.replicate n 0).set sn wi)))))]
          rw [eg, er]
          exact ⟨(by repeat (first | exact List.mem_cons_self | apply List.mem_cons_of_mem)), (by repeat (first | exact List.mem_cons_self | apply List.mem_cons_of_mem)), (by repeat (first | exact List.mem_cons_self | apply List.mem_cons_of_mem)), trivial⟩
        · obtain ⟨ql, qv⟩ := q
          simp only at e1 e2 e3
          (repeat' ((conv => whnf) <;> first | (show idxK _ _ _ _ _; (first | refine idx_of fa i hfa rfl hli ?_ | refine idx_of ra o hra rfl hrlt ?_ | refine idx_of wa i hwa rfl (by omega) ?_ | refine idx_of ⟨b, off, none⟩ sn e1 hsn (show sn < qv.length by omega) ?_)) | (show roK _ _ _; (first | refine ro_iv hfr' (j := i) hli hfi ?_ | refine ro_row0 (fun R w' h => by rw [← hra]; exact rows_base h hr.rows) _ _ (shRows_get hrlt) rfl ?_ | refine ro_iv hwr (j := i) (by omega) hwi ?_)) | (show remK _ _ _; (refine rem_is hd0 (by omega) hdd ?_)) | (show idxRowK _ _ _ _ _ _; (refine idxRow_of d rfl hdn (Nat.le_of_eq (hdl.trans hM.len).symm) ?_)) | (show rowK _ _ _ _; (refine row_of _ _ (dRows_get hq) rfl ?_)) | (show pureK _ _ _; (refine nil_no (ti 33 rfl) rfl e1 ?_)) | (show wrK _ _ _ _ _; (refine wr_group (g := 2) (d := d) (s := sn) (l := ql) (vs := qv.map (Value.int .i64)) (by repeat (first | exact List.mem_cons_self | apply List.mem_cons_of_mem)) (dGrp_get hq) e1 (by rw [List.length_map]; omega) (add_frame b off sn) ?_)) | (show Wp _ _ _ _ _ _ _; (refine Wp.go tabOk rfl ?_)) | (show @cmpK _ _ _; (first | refine cmp_yes (by omega) ?_ | refine cmp_no (by omega) ?_ | (refine cmp_both ?_ ?_ <;> intro _))) | (show wrapK _ _ _; (refine wrap_i64 (by omega) (by omega) ?_)) | (show leK _ _ _; (refine le_of (by first | exact Nat.le_refl _ | omega) ?_)) | (show roomK _ _ _; (refine room_of (by first | omega | (dsimp only; omega)) ?_)) | (show ltK _ _ _; (refine lt_of (by omega) ?_)) | (show _ ∧ _; (refine ⟨?_, ?_⟩)) | (show keepK _ _ _ _ _; (refine keep_of (by first | exact List.Sublist.refl _ | exact List.Sublist.cons _ (List.Sublist.refl _) | exact List.Sublist.cons _ (List.Sublist.cons _ (List.Sublist.refl _)) | exact List.Sublist.cons _ (List.Sublist.cons _ (List.Sublist.cons _ (List.Sublist.refl _)))) (by first | exact (fun _ _ h => h) | exact (fun _ _ h => h.1) | exact (fun _ _ h => h.1.1)) ?_)) | (show ownK _ _ _ _ _; (refine own_keep ?_)) | (show apK _ _; (refine ap_old ?_))))
          all_goals (conv => whnf)
          have eg : dGrp (M.set d (ql, qv.set sn wi)) = (dGrp M).set d (ql, (qv.map (Value.int .i64)).set sn (.int .i64 wi)) := by rw [dGrp_set, List.map_set]
          have er : dRows (M.set d (ql, qv.set sn wi)) = (dRows M).set d [.slice ql.base n ql.cap] := by rw [dRows_set]; simp [dRow, e2]
          have hlenV : ((ql, qv.set sn wi) : DCell).2.length = n := by simp [e2]
          refine ⟨(i + 1, M.set d (ql, qv.set sn wi)), [], ⟨hM.set (.inr ⟨⟨b, off, e1⟩, hlenV, e3⟩), setD_fits hMf (set_fits (hMf _ hqm) hwf), by rw [hstep]; rw [← step_old hq (fun h0 => by have := congrArg List.length h0; simp only [List.length_nil] at this; omega) hw0 hdd, hsn2], hli⟩, by show fv.xs.length - (i + 1) < fv.xs.length - i; omega, rfl, ⟨rfl, rfl, rfl, rfl, rfl, rfl, rfl, rfl, rfl, rfl, rfl, rfl, trivial⟩, ?_, fun _ _ h => h⟩
          show heapInto [] _ [(0, .box [.c fv.val] 33), (1, .rows (dRows (M.set d (ql, qv.set sn wi))) 1 33), (2, .ext (grpO 3 (dGrp (M.set d (ql, qv.set sn wi)))))]
          rw [eg, er, show (dRows M).set d [.slice ql.base n ql.cap] = dRows M from ?_]
          exact ⟨(by repeat (first | exact List.mem_cons_self | apply List.mem_cons_of_mem)), (by repeat (first | exact List.mem_cons_self | apply List.mem_cons_of_mem)), (by repeat (first | exact List.mem_cons_self | apply List.mem_cons_of_mem)), trivial⟩
          rw [← e2, show [Value.slice ql.base qv.length ql.cap] = dRow (ql, qv) from rfl, ← dRows_set, List.set_eq_self hq]
    · (repeat' ((conv => whnf) <;> first | (show Wp _ _ _ _ _ _ _; (refine Wp.go tabOk rfl ?_)) | (show @cmpK _ _ _; (first | refine cmp_yes (by omega) ?_ | refine cmp_no (by omega) ?_ | (refine cmp_both ?_ ?_ <;> intro _))) | (show wrapK _ _ _; (refine wrap_i64 (by omega) (by omega) ?_)) | (show leK _ _ _; (refine le_of (by first | exact Nat.le_refl _ | omega) ?_)) | (show roomK _ _ _; (refine room_of (by first | omega | (dsimp only; omega)) ?_)) | (show ltK _ _ _; (refine lt_of (by omega) ?_)) | (show _ ∧ _; (refine ⟨?_, ?_⟩)) | (show keepK _ _ _ _ _; (refine keep_of (by first | exact List.Sublist.refl _ | exact List.Sublist.cons _ (List.Sublist.refl _) | exact List.Sublist.cons _ (List.Sublist.cons _ (List.Sublist.refl _)) | exact List.Sublist.cons _ (List.Sublist.cons _ (List.Sublist.cons _ (List.Sublist.refl _)))) (by first | exact (fun _ _ h => h) | exact (fun _ _ h => h.1) | exact (fun _ _ h => h.1.1)) ?_)) | (show ownK _ _ _ _ _; (refine own_keep ?_)) | (show apK _ _; (refine ap_old ?_))))
      all_goals (conv => whnf)
      obtain rfl : i = fv.xs.length := by omega
      exact ⟨(o + 1, M), [], ⟨hM, hMf, by rw [hMs, outerD_succ, hrow, hsv], hlt⟩, by show tv.xs.length - (o + 1) < tv.xs.length - o; omega, rfl, ⟨rfl, rfl, rfl, rfl, rfl, rfl, rfl, trivial⟩, ⟨(by repeat (first | exact List.mem_cons_self | apply List.mem_cons_of_mem)), (by repeat (first | exact List.mem_cons_self | apply List.mem_cons_of_mem)), (by repeat (first | exact List.mem_cons_self | apply List.mem_cons_of_mem)), trivial⟩, fun _ _ h => h⟩
  · (repeat' ((conv => whnf) <;> first | (show Wp _ _ _ _ _ _ _; (refine Wp.go tabOk rfl ?_)) | (show @cmpK _ _ _; (first | refine cmp_yes (by omega) ?_ | refine cmp_no (by omega) ?_ | (refine cmp_both ?_ ?_ <;> intro _))) | (show wrapK _ _ _; (refine wrap_i64 (by omega) (by omega) ?_)) | (show leK _ _ _; (refine le_of (by first | exact Nat.le_refl _ | omega) ?_)) | (show roomK _ _ _; (refine room_of (by first | omega | (dsimp only; omega)) ?_)) | (show ltK _ _ _; (refine lt_of (by omega) ?_)) | (show _ ∧ _; (refine ⟨?_, ?_⟩)) | (show keepK _ _ _ _ _; (refine keep_of (by first | exact List.Sublist.refl _ | exact List.Sublist.cons _ (List.Sublist.refl _) | exact List.Sublist.cons _ (List.Sublist.cons _ (List.Sublist.refl _)) | exact List.Sublist.cons _ (List.Sublist.cons _ (List.Sublist.cons _ (List.Sublist.refl _)))) (by first | exact (fun _ _ h => h) | exact (fun _ _ h => h.1) | exact (fun _ _ h => h.1.1)) ?_)) | (show ownK _ _ _ _ _; (refine own_keep ?_)) | (show apK _ _; (refine ap_old ?_))))
    all_goals (conv => whnf)
    obtain rfl : o = tv.xs.length := by omega
    have := diag_end (w := w) (B := ⟨w, []⟩) (H := [(0, .box [.c fv.val] 33), (1, .rows (dRows L) 1 33), (2, .ext (grpO 3 (dGrp L)))]) (S := baseA w) (nx := 3) (i := 1) (g := 2) (n := n) (m := n) (fun _ _ h => h) rfl hL hLf (by omega) rfl (by repeat (first | exact List.mem_cons_self | apply List.mem_cons_of_mem)) (by repeat (first | exact List.mem_cons_self | apply List.mem_cons_of_mem))
    rw [hLs] at this
    exact this
end Go.Proofs.Ytdmkdogakbipbaa

/- LR -/
namespace Go.Proofs.Ytdmkdogakbipbaa
open Go.RowKit Go.SX
def up : Nat → Int → Int → Int
  | 0, _, p => p
  | k + 1, size, p => if p < size then up k size (p * 2) else p
def sizeL (xs : List Int) (layout : Int) : Int := if layout = 1 ∧ xs.length = 3 then xs.getD 1 0 * xs.getD 2 0 else entries xs
def pitchL (xs : List Int) (layout : Int) : Int := if layout = 1 ∧ xs.length = 3 then up 7 (xs.getD 1 0 * xs.getD 2 0) 1 else entries xs
def placeL (size pitch : Int) (i : Nat) : Int := (i : Int) / size * pitch + i % size
def rangeL (size pitch : Int) (k : Nat) : List Int := (List.range k).map (placeL size pitch)
def slotsL (xs : List Int) (layout slots : Int) : List Int × Int :=
  if entries xs = 0 ∨ layout < 0 ∨ 1 < layout then ([], 4)
  else if slots ≤ placeL (sizeL xs layout) (pitchL xs layout) ((entries xs).toNat - 1) then ([], 7)
  else (rangeL (sizeL xs layout) (pitchL xs layout) (entries xs).toNat, 0)
theorem rangeL_length (size pitch : Int) (k : Nat) : (rangeL size pitch k).length = k := by simp [rangeL]
theorem rangeL_succ (size pitch : Int) (k : Nat) : rangeL size pitch (k + 1) = rangeL size pitch k ++ [placeL size pitch k] := by simp [rangeL, List.range_succ]
theorem rangeL_getD (size pitch : Int) {k i : Nat} (h : i < k) : (rangeL size pitch k).getD i 0 = placeL size pitch i := by simp [rangeL, List.getD, h]
theorem up_ge : ∀ (k : Nat) (size p : Int), 1 ≤ p → p * 2 ^ k = 128 → size ≤ 64 → size ≤ up k size p ∧ 1 ≤ up k size p ∧ up k size p ≤ 128
  | 0, size, p, h1, h2, h3 => by
    have : p = 128 := by simpa using h2
    simp only [up]; omega
  | k + 1, size, p, h1, h2, h3 => by
    rw [up]
    split
    · exact up_ge k size (p * 2) (by omega) (by rw [Int.mul_assoc, ← Int.pow_succ']; exact h2) h3
    · refine ⟨by omega, by omega, ?_⟩
      have h4 : (1 : Int) ≤ 2 ^ (k + 1) := by have : (0 : Int) < 2 ^ (k + 1) := Int.pow_pos (by decide); omega
      have : p * 1 ≤ p * 2 ^ (k + 1) := Int.mul_le_mul_of_nonneg_left h4 (by omega)
      omega
theorem entries_three {xs : List Int} (h : entries xs ≠ 0) (h3 : xs.length = 3) : entries xs = xs.getD 0 0 * (xs.getD 1 0 * xs.getD 2 0) ∧ 1 ≤ xs.getD 0 0 ∧ 1 ≤ xs.getD 1 0 ∧ 1 ≤ xs.getD 2 0 := by
  match xs, h3 with
  | [a, b, c], _ =>
    have h0 : entries [a, b, c] = entLoop 1 [a, b, c] := by unfold entries; rfl
    rw [h0] at h ⊢
    simp only [entLoop] at h ⊢
    split at h
    · exact absurd rfl h
    split at h
    · exact absurd rfl h
    split at h
    · exact absurd rfl h
    rename_i g1 g2 g3
    rw [if_neg g1, if_neg g2, if_neg g3]
    refine ⟨?_, ?_, ?_, ?_⟩
    · show 1 * a * b * c = a * (b * c)
      rw [Int.one_mul, Int.mul_assoc]
    all_goals simp only [List.getD_cons_zero, List.getD_cons_succ]; omega
/-- so many channels, each of so many entries, so far apart -/
theorem slots_geo {xs : List Int} {layout : Int} (h : entries xs ≠ 0) : ∃ c s p : Nat, entries xs = (c * s : Nat) ∧ sizeL xs layout = s ∧ pitchL xs layout = p ∧ 1 ≤ c ∧ 1 ≤ s ∧ s ≤ p ∧ p ≤ 128 ∧ c * s ≤ 64 ∧ c ≤ 64 ∧ s ≤ 64 ∧ (¬ (layout = 1 ∧ xs.length = 3) → c = 1 ∧ s = p) := by
  have hb := entries_bd xs
  by_cases h1 : layout = 1 ∧ xs.length = 3
  · obtain ⟨e, h2, h3, h4⟩ := entries_three h h1.2
    obtain ⟨a, ha⟩ := Int.eq_ofNat_of_zero_le (show 0 ≤ xs.getD 0 0 by omega)
    obtain ⟨b, hb'⟩ := Int.eq_ofNat_of_zero_le (show 0 ≤ xs.getD 1 0 by omega)
    obtain ⟨c, hc⟩ := Int.eq_ofNat_of_zero_le (show 0 ≤ xs.getD 2 0 by omega)
    rw [sizeL, pitchL, if_pos h1, if_pos h1]
    rw [ha, hb', hc] at e
    rw [ha] at h2
    rw [hb'] at h3 ⊢
    rw [hc] at h4 ⊢
    have e2 : (b : Int) * (c : Int) = ((b * c : Nat) : Int) := by simp
    have e3 : (a : Int) * ((b : Int) * (c : Int)) = ((a * (b * c) : Nat) : Int) := by simp
    rw [e3] at e
    rw [e2]
    have hbc : 1 ≤ b * c := Nat.mul_pos (by omega) (by omega)
    have hle : a * (b * c) ≤ 64 := by omega
    have hsl : b * c ≤ a * (b * c) := Nat.le_mul_of_pos_left _ (by omega)
    have hal : a ≤ a * (b * c) := Nat.le_mul_of_pos_right _ hbc
    obtain ⟨u1, u2, u3⟩ := up_ge 7 ((b * c : Nat) : Int) 1 (by decide) (by decide) (by omega)
    obtain ⟨p, hp⟩ := Int.eq_ofNat_of_zero_le (show 0 ≤ up 7 ((b * c : Nat) : Int) 1 by omega)
    exact ⟨a, b * c, p, e, rfl, hp, by omega, hbc, by omega, by omega, hle, by omega, by omega, fun g => absurd h1 g⟩
  · obtain ⟨n, hn⟩ := Int.eq_ofNat_of_zero_le hb.1
    rw [sizeL, pitchL, if_neg h1, if_neg h1, hn]
    rw [hn] at h hb
    exact ⟨1, n, n, by simp, rfl, rfl, by decide, by omega, by omega, by omega, by omega, by omega, by omega, fun _ => ⟨rfl, rfl⟩⟩
theorem placeL_at {c i s p : Nat} (h : i < s) : placeL s p (c * s + i) = (c * p + i : Nat) := by
  have hs : 0 < s := by omega
  have e1 : ((c * s + i : Nat) : Int) / (s : Int) = (c : Int) := by
    rw [← Int.natCast_ediv, Nat.add_comm, Nat.add_mul_div_right _ _ hs, Nat.div_eq_of_lt h, Nat.zero_add]
  have e2 : ((c * s + i : Nat) : Int) % (s : Int) = (i : Int) := by
    rw [← Int.natCast_emod, Nat.add_comm, Nat.add_mul_mod_self_right, Nat.mod_eq_of_lt h]
  rw [placeL, e1, e2]; simp
theorem placeL_nat {s p : Nat} (i : Nat) : placeL s p i = ((i / s * p + i % s : Nat) : Int) := by simp [placeL]
theorem placeL_bd {s p i n : Nat} (hs : 1 ≤ s) (hp : s ≤ p) (hi : i < n) (hn : n ≤ 64) (hp2 : p ≤ 128) : 0 ≤ placeL s p i ∧ placeL s p i ≤ 10000 := by
  rw [placeL_nat]
  have h1 : i / s ≤ i := Nat.div_le_self _ _
  have h2 := Nat.mod_lt i (show s > 0 by omega)
  have h3 : i / s * p ≤ 64 * 128 := Nat.mul_le_mul (by omega) hp2
  have h4 := Nat.mod_le i s
  omega
end Go.Proofs.Ytdmkdogakbipbaa

