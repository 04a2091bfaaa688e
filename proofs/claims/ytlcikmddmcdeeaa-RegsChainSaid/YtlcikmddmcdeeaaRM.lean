import Derived.Test.YtlcikmddmcdeeaaRL
namespace Go.Proofs.Ytlcikmddmcdeeaa
open Go.SX Go.RowKit
def codeD (c : CodeV) : Asn := rowsA c.base 5 (instrRows c.l)
theorem out_fits {l : List InstrV} (hs : Straight l) (hf : ∀ x ∈ l, x.fits) {s : RegSt} (h : RInv l l.length s) : ∀ x ∈ s.out, x.fits := by
  intro y hy
  obtain ⟨j, hj⟩ := List.getElem?_of_mem hy
  have hjl : j < l.length := by have := (List.getElem?_eq_some_iff.1 hj).1; rw [h.lenO] at this; exact this
  have hx : l[j]? = some l[j] := List.getElem?_eq_getElem hjl
  rw [h.out j l[j] hjl hx] at hj
  cases hj
  obtain ⟨g1, g2, g3, g4, g5, g6⟩ := hs.2.2 j l[j] hjl hx
  have hfx := hf l[j] (List.getElem_mem hjl)
  have hc := h.few
  have hl := hs.2.1
  have hr : ∀ k, k < l.length → i64 (s.reg.getD k 0) := fun k hk => by have := h.mid.regB k hk; exact ⟨by omega, by omega⟩
  refine ⟨hfx.1, hr j hjl, ?_, ?_, hfx.2.2.2.2⟩
  · show i64 (if _ then _ else _)
    split
    · have := g5 (by assumption); exact hr _ (by omega)
    · exact ⟨by decide, by decide⟩
  · show i64 (if _ then _ else _)
    split
    · have := g6 (by assumption); exact hr _ (by omega)
    · exact ⟨by decide, by decide⟩
/-- a call of Assign that gives registers -/
theorem call_assign {B : Base} {n : Nat} {H : Heap} {S : Asn} {nx : Nat} {K : SV → Heap → Asn → Nat → Prop} (v : CodeV) (hs : Straight v.l) (hf : ∀ x ∈ v.l, x.fits) (hv : ∀ ρ w, Abs B ρ nx H S w → v.ok w)
    (h : ∀ (s : RegSt) (c : CodeV), Reach v.l v.l.length s → RInv v.l v.l.length s → c.l = s.out → (∀ R w, ((codeD c).past B.w0.heap.size).holds R w → c.ok w) → K (.c (.tuple #[c.val, .int .i64 s.cnt, .int .i64 0])) H (S.and ((codeD c).past B.w0.heap.size)) nx) :
    callK ⟨Try.prog, B, n, tab⟩ 7 [.c v.val] H S nx K := by
  refine call_past Try.call7 (fun x : RegSt × CodeV => .tuple #[x.2.val, .int .i64 x.1.cnt, .int .i64 0]) (fun x => codeD x.2) (fun x => Reach v.l v.l.length x.1 ∧ x.2.l = x.1.out ∧ x.2.l.length ≤ x.2.cap) (fun ρ w hw => ?_) (fun x hx => ?_)
  · refine (assign_any w v (hv ρ w hw) hs).mono ?_
    rintro e w' ⟨s, hR, hok, u, rfl, he, hn⟩
    have hcap : ∃ l : SX.Loc, u = .slice l.base (instrRows s.out).length l.cap ∧ (instrRows s.out).length ≤ l.cap := by
      obtain ⟨l, e, F, hF, hr, hc, _⟩ := id hn
      exact ⟨l, e, hc⟩
    obtain ⟨base, cap, e1, hD⟩ := newRows_data hn
    obtain ⟨l, e2, hc⟩ := hcap
    rw [e1] at e2
    simp only [Value.slice.injEq] at e2
    rw [instrRows_length] at hc e1
    exact ⟨(s, ⟨base, cap, s.out⟩), ⟨hR, rfl, by show s.out.length ≤ cap; rw [e2.2.2]; exact hc⟩, by rw [e1]; rfl, he, hD⟩
  · obtain ⟨s, c⟩ := x
    obtain ⟨hR, hc, hcap⟩ := hx
    have hI := reach_inv hs hR
    refine h s c hR hI hc fun R w hD => ⟨rowsA_in hD, ?_, hcap, ?_⟩
    · rw [hc]; exact out_fits hs hf hI
    · rw [hc, hI.lenO]; have := hs.2.1; omega
theorem assign_bad (w : World) (v : CodeV) (hv : v.ok w) (hst : ¬ Straight v.l) : Calls Try.prog 7 #[v.val] w fun e w' => e = .returned (.tuple #[.slice none 0 0, .int .i64 0, .int .i64 3]) ∧ Ext w w' := by
  refine calls_of tab tabOk Try.func7 rfl rfl rfl [] (fun _ => ⟨none, 0⟩) [.c (.slice v.base v.l.length v.cap)] [] (baseA w) 0 rfl rfl (by show 1 ≤ _; decide) (abs_base w) ?_
  (repeat' ((conv => whnf) <;> first | (show callK _ 12 _ _ _ _ _; (refine call_some (f := 12) Try.call12 (fun c : Bool => .bool c) (fun c => (c = true ↔ Straight v.l)) (fun ρ w' hw => (straight_any w' v (holds_of_abs hw fun R h => hv.later h)).mono fun e w'' ⟨c, h1, h2, h3⟩ => ⟨c, h1, h2, h3⟩) (fun c hc => ?_))) | (show Wp _ _ _ _ _ _ _; (refine Wp.go tabOk rfl ?_)) | (show @cmpK _ _ _; (first | refine cmp_yes (by omega) ?_ | refine cmp_no (by omega) ?_ | (refine cmp_both ?_ ?_ <;> intro _))) | (show wrapK _ _ _; (refine wrap_i64 (by omega) (by omega) ?_)) | (show leK _ _ _; (refine le_of (by first | exact Nat.le_refl _ | omega) ?_)) | (show roomK _ _ _; (refine room_of (by first | omega | (dsimp only; omega)) ?_)) | (show ltK _ _ _; (refine lt_of (by omega) ?_)) | (show _ ∧ _; (refine ⟨?_, ?_⟩)) | (show keepK _ _ _ _ _; (refine keep_of (by first | exact List.Sublist.refl _ | exact List.Sublist.cons _ (List.Sublist.refl _) | exact List.Sublist.cons _ (List.Sublist.cons _ (List.Sublist.refl _)) | exact List.Sublist.cons _ (List.Sublist.cons _ (List.Sublist.cons _ (List.Sublist.refl _)))) (by first | exact (fun _ _ h => h) | exact (fun _ _ h => h.1) | exact (fun _ _ h => h.1.1)) ?_)) | (show ownK _ _ _ _ _; (refine own_keep ?_))))
  obtain rfl : c = false := by
    cases c with
    | false => rfl
    | true => exact absurd (hc.1 rfl) hst
  (repeat' ((conv => whnf) <;> first | (show Wp _ _ _ _ _ _ _; (refine Wp.go tabOk rfl ?_)) | (show @cmpK _ _ _; (first | refine cmp_yes (by omega) ?_ | refine cmp_no (by omega) ?_ | (refine cmp_both ?_ ?_ <;> intro _))) | (show wrapK _ _ _; (refine wrap_i64 (by omega) (by omega) ?_)) | (show leK _ _ _; (refine le_of (by first | exact Nat.le_refl _ | omega) ?_)) | (show roomK _ _ _; (refine room_of (by first | omega | (dsimp only; omega)) ?_)) | (show ltK _ _ _; (refine lt_of (by omega) ?_)) | (show _ ∧ _; (refine ⟨?_, ?_⟩)) | (show keepK _ _ _ _ _; (refine keep_of (by first | exact List.Sublist.refl _ | exact List.Sublist.cons _ (List.Sublist.refl _) | exact List.Sublist.cons _ (List.Sublist.cons _ (List.Sublist.refl _)) | exact List.Sublist.cons _ (List.Sublist.cons _ (List.Sublist.cons _ (List.Sublist.refl _)))) (by first | exact (fun _ _ h => h) | exact (fun _ _ h => h.1) | exact (fun _ _ h => h.1.1)) ?_)) | (show ownK _ _ _ _ _; (refine own_keep ?_))))
  exact ends_of (fun _ _ h => h) (fun _ => rfl) rfl
def code0 : List InstrV := [⟨1, 0, 0, 0, 0⟩, ⟨8, 1, 0, 0, 1⟩, ⟨3, 2, 0, 1, 0⟩]
def want0 : List InstrV := [⟨1, 0, 0, 0, 0⟩, ⟨8, 1, 0, 0, 1⟩, ⟨3, 0, 0, 1, 0⟩]
theorem straight0 : Straight code0 := by
  refine ⟨by decide, by decide, ?_⟩
  intro j x hj hx
  rcases j with _ | _ | _ | j
  · cases hx; unfold goodAt; decide
  · cases hx; unfold goodAt; decide
  · cases hx; unfold goodAt; decide
  · have : j + 1 + 1 + 1 < 3 := hj
    omega
theorem run0 {s : RegSt} (h : Reach code0 3 s) : s.cnt = 2 ∧ s.out = want0 := by
  obtain ⟨s2, x2, ⟨s1, x1, ⟨s0, x0, h0, hx0, st0⟩, hx1, st1⟩, hx2, st2⟩ := h
  cases hx0; cases hx1; cases hx2; cases h0
  have i0 : regInit code0 = ⟨[2, 1, 1], [0, 0, 0], [], 0, []⟩ := by
    have : leftAt code0 3 = [2, 1, 0] := by decide
    unfold regInit
    show RegSt.mk (bump 1 (leftAt code0 3) _) _ _ _ _ = _
    rw [this]; rfl
  rw [i0] at st0
  have e1 : s1 = ⟨[2, 1, 1], [0, 0, 0], [], 1, [⟨1, 0, 0, 0, 0⟩]⟩ := by
    obtain ⟨q, hT, r, tl, sp3, hc, hp, hl, hr, g0, g1, ho⟩ := st0
    have hq : ([2, 1, 1], []) = q := hT
    subst hq
    rcases hc with ⟨_, rfl, rfl, hcnt⟩ | ⟨hc, _⟩
    · obtain ⟨a, b, c, d, e⟩ := s1
      simp only at *
      subst hl hr ho hcnt
      rw [g1 (by decide), hp.eq_nil]
      rfl
    · simp at hc
  subst e1
  have e2 : s2 = ⟨[1, 1, 1], [0, 1, 0], [], 2, [⟨1, 0, 0, 0, 0⟩, ⟨8, 1, 0, 0, 1⟩]⟩ := by
    obtain ⟨q, hT, r, tl, sp3, hc, hp, hl, hr, g0, g1, ho⟩ := st1
    obtain ⟨m, ⟨hm, _, hm2⟩, hmq⟩ : Takes [0, 0, 0] [0] ([2, 1, 1], []) q := hT
    have hmq : m = q := hmq
    subst hmq
    have hm : m.1 = [1, 1, 1] := hm
    obtain ⟨m1, m2⟩ := m
    simp only at hm
    subst hm
    have hm2 : m2 = [] := hm2 (show ([1, 1, 1] : List Int).getD 0 0 ≠ 0 by decide)
    subst hm2
    rcases hc with ⟨_, rfl, rfl, hcnt⟩ | ⟨hc, _⟩
    · obtain ⟨a, b, c, d, e⟩ := s2
      simp only at *
      subst hl hr ho hcnt
      rw [g1 (by decide), hp.eq_nil]
      rfl
    · simp at hc
  subst e2
  obtain ⟨q, hT, r, tl, sp3, hc, hp, hl, hr, g0, g1, ho⟩ := st2
  obtain ⟨m, ⟨hm, hm2, _⟩, m', ⟨hm', hm2', _⟩, hmq⟩ : Takes [0, 1, 0] [0, 1] ([1, 1, 1], []) q := hT
  have hmq : m' = q := hmq
  subst hmq
  obtain ⟨m1, m2⟩ := m
  obtain ⟨n1, n2⟩ := m'
  have hm : m1 = [0, 1, 1] := hm
  subst hm
  have hm' : n1 = [0, 0, 1] := hm'
  subst hm'
  obtain ⟨p1, l1⟩ := hm2 (show ([0, 1, 1] : List Int).getD 0 0 = 0 by decide)
  have p1 : m2 = [0] := List.perm_singleton.1 p1
  subst p1
  obtain ⟨p2, l2⟩ := hm2' (show ([0, 0, 1] : List Int).getD 1 0 = 0 by decide)
  have l2 : Least n2 := l2 (l1 fun k hk => by simp at hk)
  have p2 : n2.Perm [1, 0] := p2
  rcases hc with ⟨hc, _⟩ | ⟨hc, hcnt⟩
  · have hc : n2 = [] := hc
    subst hc
    have := p2.length_eq
    simp at this
  · have hc : n2 = r :: tl := hc
    subst hc
    have hr0 : r = 0 := by
      have hm : (0 : Int) ∈ r :: tl := p2.mem_iff.2 (by simp)
      obtain ⟨k, hk⟩ := List.getElem?_of_mem hm
      have hk' := (List.getElem?_eq_some_iff.1 hk).1
      have := l2 k hk'
      rw [List.getD_eq_getElem?_getD, List.getD_eq_getElem?_getD, hk] at this
      have h1 : r ∈ [1, 0] := p2.mem_iff.1 (by simp)
      simp at h1 this
      omega
    subst hr0
    refine ⟨hcnt, ?_⟩
    rw [ho]
    rfl
theorem fits0 : ∀ x ∈ code0, x.fits := by
  intro x hx
  simp only [code0, List.mem_cons, List.not_mem_nil, or_false] at hx
  rcases hx with rfl | rfl | rfl <;> exact ⟨⟨by decide, by decide⟩, ⟨by decide, by decide⟩, ⟨by decide, by decide⟩, ⟨by decide, by decide⟩, ⟨by decide, by decide⟩⟩
theorem fitsw : ∀ x ∈ want0, x.fits := by
  intro x hx
  simp only [want0, List.mem_cons, List.not_mem_nil, or_false] at hx
  rcases hx with rfl | rfl | rfl <;> exact ⟨⟨by decide, by decide⟩, ⟨by decide, by decide⟩, ⟨by decide, by decide⟩, ⟨by decide, by decide⟩, ⟨by decide, by decide⟩⟩
set_option maxRecDepth 20000 in
theorem fixed_any (w : World) : Calls Try.prog 6 #[] w fun e w' => e = .returned (.bool true) ∧ Ext w w' := by
  refine calls_of tab tabOk Try.func6 rfl rfl rfl [] (fun _ => ⟨none, 0⟩) [] [] (baseA w) 0 rfl rfl (by show 0 ≤ _; decide) (abs_base w) ?_
  (repeat' ((conv => whnf) <;> first | (show Wp _ _ _ _ _ _ _; (refine Wp.go tabOk rfl ?_)) | (show @cmpK _ _ _; (first | refine cmp_yes (by omega) ?_ | refine cmp_no (by omega) ?_ | (refine cmp_both ?_ ?_ <;> intro _))) | (show wrapK _ _ _; (refine wrap_i64 (by omega) (by omega) ?_)) | (show leK _ _ _; (refine le_of (by first | exact Nat.le_refl _ | omega) ?_)) | (show roomK _ _ _; (refine room_of (by first | omega | (dsimp only; omega)) ?_)) | (show ltK _ _ _; (refine lt_of (by omega) ?_)) | (show _ ∧ _; (refine ⟨?_, ?_⟩)) | (show keepK _ _ _ _ _; (refine keep_of (by first | exact List.Sublist.refl _ | exact List.Sublist.cons _ (List.Sublist.refl _) | exact List.Sublist.cons _ (List.Sublist.cons _ (List.Sublist.refl _)) | exact List.Sublist.cons _ (List.Sublist.cons _ (List.Sublist.cons _ (List.Sublist.refl _)))) (by first | exact (fun _ _ h => h) | exact (fun _ _ h => h.1) | exact (fun _ _ h => h.1.1)) ?_))))
  refine own_freeze 0 (fun _ _ _ _ hb => absurd hb (Nat.not_lt_zero _)) (fun l1 hl1 => ?_)
  (repeat' ((conv => whnf) <;> first | (show Wp _ _ _ _ _ _ _; (refine Wp.go tabOk rfl ?_)) | (show @cmpK _ _ _; (first | refine cmp_yes (by omega) ?_ | refine cmp_no (by omega) ?_ | (refine cmp_both ?_ ?_ <;> intro _))) | (show wrapK _ _ _; (refine wrap_i64 (by omega) (by omega) ?_)) | (show leK _ _ _; (refine le_of (by first | exact Nat.le_refl _ | omega) ?_)) | (show roomK _ _ _; (refine room_of (by first | omega | (dsimp only; omega)) ?_)) | (show ltK _ _ _; (refine lt_of (by omega) ?_)) | (show _ ∧ _; (refine ⟨?_, ?_⟩)) | (show keepK _ _ _ _ _; (refine keep_of (by first | exact List.Sublist.refl _ | exact List.Sublist.cons _ (List.Sublist.refl _) | exact List.Sublist.cons _ (List.Sublist.cons _ (List.Sublist.refl _)) | exact List.Sublist.cons _ (List.Sublist.cons _ (List.Sublist.cons _ (List.Sublist.refl _)))) (by first | exact (fun _ _ h => h) | exact (fun _ _ h => h.1) | exact (fun _ _ h => h.1.1)) ?_)) | (show ownK _ _ _ _ _; (refine own_keep ?_))))
  refine call_assign ⟨l1.base, l1.cap, code0⟩ straight0 fits0 (fun ρ w' hw => holds_of_abs hw fun R h => ⟨rowsA_in h.2, fits0, hl1, (show 3 ≤ 1000000 by decide)⟩) (fun s c hR hI hc hok => ?_)
  obtain ⟨hcnt, hout⟩ := run0 hR
  (repeat' ((conv => whnf) <;> first | (show callK _ 7 _ _ _ _ _; (refine call_pure (f := 7) Try.call7 _ (fun ρ w' hw => assign_bad w' ⟨none, 0, []⟩ ⟨.inl rfl, by simp, Nat.le_refl _, Nat.zero_le _⟩ (fun h => absurd h.1 (Nat.lt_irrefl 0))) ?_)) | (show Wp _ _ _ _ _ _ _; (refine Wp.go tabOk rfl ?_)) | (show @cmpK _ _ _; (first | refine cmp_yes (by omega) ?_ | refine cmp_no (by omega) ?_ | (refine cmp_both ?_ ?_ <;> intro _))) | (show wrapK _ _ _; (refine wrap_i64 (by omega) (by omega) ?_)) | (show leK _ _ _; (refine le_of (by first | exact Nat.le_refl _ | omega) ?_)) | (show roomK _ _ _; (refine room_of (by first | omega | (dsimp only; omega)) ?_)) | (show ltK _ _ _; (refine lt_of (by omega) ?_)) | (show _ ∧ _; (refine ⟨?_, ?_⟩)) | (show keepK _ _ _ _ _; (refine keep_of (by first | exact List.Sublist.refl _ | exact List.Sublist.cons _ (List.Sublist.refl _) | exact List.Sublist.cons _ (List.Sublist.cons _ (List.Sublist.refl _)) | exact List.Sublist.cons _ (List.Sublist.cons _ (List.Sublist.cons _ (List.Sublist.refl _)))) (by first | exact (fun _ _ h => h) | exact (fun _ _ h => h.1) | exact (fun _ _ h => h.1.1)) ?_))))
  refine own_freeze 0 (fun _ _ _ _ hb => absurd hb (Nat.not_lt_zero _)) (fun l2 hl2 => ?_)
  (repeat' ((conv => whnf) <;> first | (show callK _ 11 _ _ _ _ _; (refine call_pure (f := 11) Try.call11 (.bool true) (fun ρ w' hw => (sameCode_any w' c ⟨l2.base, l2.cap, want0⟩ (holds_of_abs hw fun R h => hok _ _ h.1.2) (holds_of_abs hw fun R h => ⟨rowsA_in h.2, fitsw, hl2, (show 3 ≤ 1000000 by decide)⟩)).mono (fun e w'' he => ⟨by rw [he.1, decide_eq_true (hc.trans hout)], he.2⟩)) ?_)) | (show Wp _ _ _ _ _ _ _; (refine Wp.go tabOk rfl ?_)) | (show @cmpK _ _ _; (first | refine cmp_yes (by omega) ?_ | refine cmp_no (by omega) ?_ | (refine cmp_both ?_ ?_ <;> intro _))) | (show wrapK _ _ _; (refine wrap_i64 (by omega) (by omega) ?_)) | (show leK _ _ _; (refine le_of (by first | exact Nat.le_refl _ | omega) ?_)) | (show roomK _ _ _; (refine room_of (by first | omega | (dsimp only; omega)) ?_)) | (show ltK _ _ _; (refine lt_of (by omega) ?_)) | (show _ ∧ _; (refine ⟨?_, ?_⟩)) | (show keepK _ _ _ _ _; (refine keep_of (by first | exact List.Sublist.refl _ | exact List.Sublist.cons _ (List.Sublist.refl _) | exact List.Sublist.cons _ (List.Sublist.cons _ (List.Sublist.refl _)) | exact List.Sublist.cons _ (List.Sublist.cons _ (List.Sublist.cons _ (List.Sublist.refl _)))) (by first | exact (fun _ _ h => h) | exact (fun _ _ h => h.1) | exact (fun _ _ h => h.1.1)) ?_)) | (show ownK _ _ _ _ _; (refine own_keep ?_))))
  conv => whnf
  exact ends_bool (fun R w' h => h.1.1.1) rfl rfl
end Go.Proofs.Ytlcikmddmcdeeaa
