import Derived.Test.YtlcikmddmcdeeaaRJ
namespace Go.Proofs.Ytlcikmddmcdeeaa
structure RInv (l : List InstrV) (i : Nat) (s : RegSt) : Prop where
  lenL : s.left.length = l.length
  lenR : s.reg.length = l.length
  left : ∀ k, k < l.length → s.left.getD k 0 = need l k i
  mid : Mid i s.cnt s.reg s.left s.sp
  unlike : ∀ j k, j < i → k < j → 0 < need l k (j + 1) → s.reg.getD j 0 ≠ s.reg.getD k 0
  most : s.cnt = 0 ∨ ∃ j, j < i ∧ s.cnt ≤ live l j + 1
  pos : 0 < i → 0 < s.cnt
  few : s.cnt ≤ i
  lenO : s.out.length = i
  out : ∀ j x, j < i → l[j]? = some x → s.out[j]? = some (outOf s.reg x (s.reg.getD j 0))
theorem getD_set {l : List Int} {i j : Nat} {r : Int} : (l.set i r).getD j 0 = if i = j ∧ i < l.length then r else l.getD j 0 := by
  simp only [List.getD_eq_getElem?_getD, List.getElem?_set]
  by_cases h : i = j
  · subst h
    by_cases hl : i < l.length
    · simp [hl]
    · simp [hl]
  · rw [if_neg h, if_neg (fun h' => h h'.1)]
theorem inv_init {l : List InstrV} (hs : Straight l) : RInv l 0 (regInit l) where
  lenL := by show (bump 1 _ _).length = _; rw [bump_length, leftAt_length]
  lenR := by simp [regInit]
  left := fun k hk => init_left hs hk
  mid := ⟨List.nodup_nil, fun r hr => by simp [regInit] at hr, fun k hk => by omega, fun k hk => by omega, fun k k' hk => by omega, fun r h0 h1 => by simp [regInit] at h1; omega⟩
  unlike := fun j k hj => by omega
  most := .inl rfl
  pos := fun h => by omega
  few := Nat.le_refl _
  lenO := rfl
  out := fun j x hj => by omega
theorem outOf_congr {reg reg' : List Int} {x : InstrV} {r : Int} (ha : 1 ≤ takesN x.op → reg.getD x.a.toNat 0 = reg'.getD x.a.toNat 0) (hb : 2 ≤ takesN x.op → reg.getD x.b.toNat 0 = reg'.getD x.b.toNat 0) : outOf reg x r = outOf reg' x r := by
  unfold outOf
  congr 1
  · split
    · exact ha (by assumption)
    · rfl
  · split
    · exact hb (by assumption)
    · rfl
theorem live_pigeon {l : List InstrV} {i cnt : Nat} {reg left : List Int} (hl : ∀ k, k < i → left.getD k 0 = need l k (i + 1)) (h : ∀ r : Int, 0 ≤ r → r < cnt → ∃ k, k < i ∧ 0 < left.getD k 0 ∧ reg.getD k 0 = r) : cnt ≤ live l i := by
  have h1 : ((List.range cnt).map fun n : Nat => (n : Int)).length ≤ (((List.range i).filter fun k => decide (0 < need l k (i + 1))).map fun k => reg.getD k 0).length := by
    refine len_le ?_ ?_
    · refine List.pairwise_map.2 (List.Pairwise.imp (fun {a b} hab => ?_) (List.nodup_range (n := cnt)))
      omega
    · intro r hr
      obtain ⟨n, hn, rfl⟩ := List.mem_map.1 hr
      obtain ⟨k, hk, hb, e⟩ := h n (by omega) (by have := List.mem_range.1 hn; omega)
      refine List.mem_map.2 ⟨k, List.mem_filter.2 ⟨List.mem_range.2 hk, ?_⟩, e⟩
      rw [hl k hk] at hb
      simp; omega
  simpa [live] using h1
theorem inv_step {l : List InstrV} (hs : Straight l) {i : Nat} {x : InstrV} {s s' : RegSt} (h : RInv l i s) (hx : l[i]? = some x) (ht : StepR x i s s') : RInv l (i + 1) s' := by
  have hi := (List.getElem?_eq_some_iff.1 hx).1
  have hxe := (List.getElem?_eq_some_iff.1 hx).2
  obtain ⟨q, hT, r, tl, sp3, hc, hp, hl', hr', h0, h1, ho⟩ := ht
  obtain ⟨left', reg', sp', cnt', out'⟩ := s'
  simp only at hl' hr' h0 h1 ho hc
  subst hl' hr' ho
  have hb := taken_bound hs hx
  have hcnt : ∀ j : Nat, ((takenL x).count (j : Int) : Nat) ≤ s.left.getD j 0 := by
    intro j
    by_cases hj : j < l.length
    · rw [h.left j hj, need_step hi j, hxe]; omega
    · have : (takenL x).count (j : Int) = 0 := List.count_eq_zero.2 fun hm => by have := hb _ hm; omega
      rw [this]
      have hz : s.left.getD j 0 = 0 := by
        rw [List.getD_eq_getElem?_getD, List.getElem?_eq_none (by rw [h.lenL]; omega)]; rfl
      omega
  have hM : Mid i s.cnt s.reg q.1 q.2 := Mid.takes (p := (s.left, s.sp)) h.mid hb (by show i ≤ s.left.length; rw [h.lenL]; omega) hcnt hT
  have hql : ∀ k, k < l.length → q.1.getD k 0 = need l k (i + 1) := by
    intro k hk
    rw [hT.left, fold_bump (fun k' hk' => by have := hb k' hk'; have := h.lenL; show 0 ≤ k' ∧ k' < (s.left.length : Int); omega) k]
    show s.left.getD k 0 + _ = _
    rw [h.left k hk, need_step hi k, hxe]
    omega
  have hqlen : q.1.length = l.length := by
    have : ∀ (ks l : List Int), (ks.foldl (bump (-1)) l).length = l.length := by
      intro ks
      induction ks with
      | nil => intro l; rfl
      | cons k ks ih => intro l; rw [List.foldl_cons, ih, bump_length]
    rw [hT.left, this]; exact h.lenL
  have hri : i < s.reg.length := by rw [h.lenR]; exact hi
  have hnew : (s.reg.set i r).getD i 0 = r := by rw [getD_set, if_pos ⟨rfl, hri⟩]
  have hold : ∀ k, k < i → (s.reg.set i r).getD k 0 = s.reg.getD k 0 := fun k hk => by rw [getD_set, if_neg (fun h => by omega)]
  -- the register that is taken
  have hcc : s.cnt ≤ cnt' ∧ cnt' ≤ s.cnt + 1 := by rcases hc with ⟨_, _, _, e⟩ | ⟨_, e⟩ <;> omega
  have hr01 : 0 ≤ r ∧ r < cnt' := by
    rcases hc with ⟨_, e1, _, e2⟩ | ⟨e1, e2⟩
    · omega
    · have := hM.spB r (by rw [e1]; simp); omega
  have hsp3 : ∀ y, y ∈ sp3 ↔ y ∈ tl := fun y => hp.mem_iff
  have htl : tl.Nodup ∧ r ∉ tl ∧ (∀ y ∈ tl, y ∈ q.2) := by
    rcases hc with ⟨e0, _, e, _⟩ | ⟨e, _⟩
    · subst e; exact ⟨List.nodup_nil, by simp, by simp⟩
    · have := hM.nodup
      rw [e] at this
      obtain ⟨a, b⟩ := List.nodup_cons.1 this
      exact ⟨b, a, fun y hy => by rw [e]; simp [hy]⟩
  have hrb : ∀ k, k < i → 0 < q.1.getD k 0 → s.reg.getD k 0 ≠ r := by
    intro k hk hb e
    rcases hc with ⟨_, e1, _, _⟩ | ⟨e1, _⟩
    · have := hM.regB k hk; omega
    · exact hM.busy k hk hb (by rw [e1, e]; simp)
  have hall : ∀ y : Int, 0 ≤ y → y < cnt' → y = r ∨ y ∈ tl ∨ ∃ k, k < i ∧ 0 < q.1.getD k 0 ∧ s.reg.getD k 0 = y := by
    intro y hy0 hy1
    by_cases hyr : y = r
    · exact .inl hyr
    · refine .inr ?_
      have hyc : y < s.cnt := by rcases hc with ⟨_, e1, _, e2⟩ | ⟨_, e2⟩ <;> omega
      rcases hM.all y hy0 hyc with hm | hm
      · rcases hc with ⟨e0, _, _, _⟩ | ⟨e1, _⟩
        · rw [e0] at hm; simp at hm
        · rw [e1] at hm
          rcases List.mem_cons.1 hm with hm | hm
          · exact absurd hm hyr
          · exact .inl hm
      · exact .inr hm
  have hmid : Mid (i + 1) cnt' (s.reg.set i r) q.1 sp' := by
    have hmem : ∀ y, y ∈ sp' → y = r ∨ y ∈ tl := by
      intro y hy
      by_cases hz : q.1.getD i 0 = 0
      · rw [(h0 hz).mem_iff, List.mem_cons, hsp3] at hy; exact hy
      · rw [h1 hz, hsp3] at hy; exact .inr hy
    have hbusy : ∀ k, k < i → 0 < q.1.getD k 0 → s.reg.getD k 0 ∉ sp' := by
      intro k hk hb hm
      rcases hmem _ hm with e | hm
      · exact hrb k hk hb e
      · exact hM.busy k hk hb (htl.2.2 _ hm)
    refine ⟨?_, ?_, ?_, ?_, ?_, ?_⟩
    · by_cases hz : q.1.getD i 0 = 0
      · rw [(h0 hz).nodup_iff, List.nodup_cons, hsp3, hp.nodup_iff]; exact ⟨htl.2.1, htl.1⟩
      · rw [h1 hz, hp.nodup_iff]; exact htl.1
    · intro y hy
      rcases hmem y hy with rfl | hy
      · exact hr01
      · have := hM.spB y (htl.2.2 y hy); omega
    · intro k hk
      by_cases hki : k = i
      · subst hki; rw [hnew]; exact hr01
      · rw [hold k (by omega)]; have := hM.regB k (by omega); omega
    · intro k hk hb
      by_cases hki : k = i
      · subst hki
        rw [hnew, h1 (by omega), hsp3]; exact htl.2.1
      · rw [hold k (by omega)]; exact hbusy k (by omega) hb
    · intro k k' hk hk' hne hbk hbk'
      by_cases hki : k = i
      · subst hki
        rw [hnew, hold k' (by omega)]
        exact fun e => hrb k' (by omega) hbk' e.symm
      · by_cases hki' : k' = i
        · subst hki'
          rw [hnew, hold k (by omega)]
          exact hrb k (by omega) hbk
        · rw [hold k (by omega), hold k' (by omega)]
          exact hM.apart k k' (by omega) (by omega) hne hbk hbk'
    · intro y hy0 hy1
      rcases hall y hy0 hy1 with rfl | hy | ⟨k, hk, hb, e⟩
      · by_cases hz : q.1.getD i 0 = 0
        · exact .inl ((h0 hz).mem_iff.2 (by simp))
        · refine .inr ⟨i, by omega, ?_, hnew⟩
          have := hql i hi; omega
      · refine .inl ?_
        by_cases hz : q.1.getD i 0 = 0
        · rw [(h0 hz).mem_iff, List.mem_cons, hsp3]; exact .inr hy
        · rw [h1 hz, hsp3]; exact hy
      · exact .inr ⟨k, by omega, hb, by rw [hold k hk]; exact e⟩
  refine ⟨hqlen, by rw [List.length_set]; exact h.lenR, hql, hmid, ?_, ?_, ?_, ?_, ?_, ?_⟩
  · intro j k hj hk hn
    by_cases hji : j = i
    · subst hji
      show (s.reg.set j r).getD j 0 ≠ (s.reg.set j r).getD k 0
      rw [hnew, hold k hk]
      exact fun e => hrb k hk (by rw [hql k (by omega)]; omega) e.symm
    · show (s.reg.set i r).getD j 0 ≠ (s.reg.set i r).getD k 0
      rw [hold j (by omega), hold k (by omega)]
      exact h.unlike j k (by omega) hk hn
  · rcases hc with ⟨e0, e1, e2, e3⟩ | ⟨e1, e2⟩
    · refine .inr ⟨i, by omega, ?_⟩
      have : s.cnt ≤ live l i := live_pigeon (left := q.1) (reg := s.reg) (fun k hk => hql k (by omega)) fun y hy0 hy1 => by
        rcases hM.all y hy0 hy1 with hm | hm
        · rw [e0] at hm; simp at hm
        · exact hm
      show cnt' ≤ _
      omega
    · show cnt' = 0 ∨ _
      rcases h.most with hm | ⟨j, hj, hm⟩
      · exact .inl (by omega)
      · exact .inr ⟨j, by omega, by show cnt' ≤ _; omega⟩
  · intro _; show 0 < cnt'; omega
  · show cnt' ≤ _; have := h.few; omega
  · show (s.out ++ _).length = _; rw [List.length_append, h.lenO]; rfl
  · intro j y hj hy
    show (s.out ++ [outOf s.reg x r])[j]? = some (outOf (s.reg.set i r) y ((s.reg.set i r).getD j 0))
    have hjl := (List.getElem?_eq_some_iff.1 hy).1
    obtain ⟨g1, g2, g3, g4, g5, g6⟩ := hs.2.2 j y hjl hy
    by_cases hji : j = i
    · subst hji
      rw [hx] at hy
      cases hy
      rw [List.getElem?_append_right (by rw [h.lenO]; exact Nat.le_refl _), h.lenO, Nat.sub_self, hnew]
      show some _ = some _
      rw [outOf_congr (reg' := s.reg.set j r)]
      · intro hn; rw [hold]; have := g5 hn; omega
      · intro hn; rw [hold]; have := g6 hn; omega
    · rw [List.getElem?_append_left (by rw [h.lenO]; omega), h.out j y (by omega) hy, hold j (by omega), outOf_congr (reg' := s.reg.set i r)]
      · intro hn; rw [hold]; have := g5 hn; omega
      · intro hn; rw [hold]; have := g6 hn; omega
theorem reach_inv {l : List InstrV} (hs : Straight l) : ∀ {i : Nat} {s : RegSt}, Reach l i s → RInv l i s
  | 0, s, h => by cases h; exact inv_init hs
  | i + 1, s, ⟨s0, x, h, hx, ht⟩ => inv_step hs (reach_inv hs h) hx ht
end Go.Proofs.Ytlcikmddmcdeeaa
