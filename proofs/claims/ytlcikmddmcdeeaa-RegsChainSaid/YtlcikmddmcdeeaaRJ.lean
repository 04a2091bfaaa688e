import Derived.Test.YtlcikmddmcdeeaaRG
namespace Go.Proofs.Ytlcikmddmcdeeaa
/-! ### Plain: what a run of the relation keeps -/
/-- how often a result is still taken from an instruction on -/
def need (l : List InstrV) (k i : Nat) : Nat := ((l.drop i).flatMap takenL).count (k : Int) + (if k = l.length - 1 then 1 else 0)
/-- how many results are still needed behind an instruction -/
def live (l : List InstrV) (i : Nat) : Nat := ((List.range i).filter fun k => decide (0 < need l k (i + 1))).length
theorem need_step {l : List InstrV} {i : Nat} (h : i < l.length) (k : Nat) : need l k i = (takenL l[i]).count (k : Int) + need l k (i + 1) := by
  unfold need
  rw [List.drop_eq_getElem_cons h, List.flatMap_cons, List.count_append]
  omega
theorem taken_bound {l : List InstrV} (hs : Straight l) {i : Nat} {x : InstrV} (hx : l[i]? = some x) : ∀ k ∈ takenL x, 0 ≤ k ∧ k < i := by
  have hi := (List.getElem?_eq_some_iff.1 hx).1
  obtain ⟨g1, g2, g3, g4, g5, g6⟩ := hs.2.2 i x hi hx
  intro k hk
  rcases takenL_of x with ⟨hn, ht⟩ | ⟨hn, ht⟩ | ⟨hn, ht⟩ | ⟨hn, ht⟩ <;> rw [ht] at hk
  · simp at hk
  · simp at hk
  · simp at hk; subst hk; exact g5 (by omega)
  · simp at hk; rcases hk with rfl | rfl
    · exact g5 (by omega)
    · exact g6 (by omega)
theorem fold_bump {d : Int} : ∀ {ks : List Int} {l : List Int}, (∀ k ∈ ks, 0 ≤ k ∧ k < l.length) → ∀ j : Nat, (ks.foldl (bump d) l).getD j 0 = l.getD j 0 + d * (ks.count (j : Int) : Nat)
  | [], l, _, j => by simp
  | k :: ks, l, h, j => by
    have hk := h k (by simp)
    rw [List.foldl_cons, fold_bump (fun k' hk' => by rw [bump_length]; exact h k' (by simp [hk'])) j, getD_bump, List.count_cons]
    by_cases hj : k = (j : Int)
    · subst hj
      rw [if_pos ⟨by simp, by omega⟩]
      simp [Int.mul_add]; omega
    · rw [if_neg (fun h' => hj (by have := h'.1; omega))]
      have : (k == (j : Int)) = false := by simpa using hj
      simp [this]
theorem leftAt_length (l : List InstrV) (i : Nat) : (leftAt l i).length = l.length := by
  have : ∀ (ks l : List Int), (ks.foldl (bump 1) l).length = l.length := by
    intro ks
    induction ks with
    | nil => intro l; rfl
    | cons k ks ih => intro l; rw [List.foldl_cons, ih, bump_length]
  simp [leftAt, this]
theorem init_left {l : List InstrV} (hs : Straight l) {k : Nat} (hk : k < l.length) : (regInit l).left.getD k 0 = need l k 0 := by
  have hb : ∀ k ∈ (l.take l.length).flatMap takenL, 0 ≤ k ∧ k < ((List.replicate l.length (0 : Int)).length : Int) := by
    intro k hk
    rw [List.take_length] at hk
    obtain ⟨x, hx, hkx⟩ := List.mem_flatMap.1 hk
    obtain ⟨i, hi⟩ := List.getElem?_of_mem hx
    have h1 := taken_bound hs hi k hkx
    have := (List.getElem?_eq_some_iff.1 hi).1
    rw [List.length_replicate]
    omega
  show (bump 1 (leftAt l l.length) ((l.length - 1 : Nat) : Int)).getD k 0 = _
  rw [getD_bump, leftAt_length]
  have h0 : ∀ j, (leftAt l l.length).getD j 0 = (l.flatMap takenL).count (j : Int) := by
    intro j
    unfold leftAt
    rw [fold_bump hb j, List.take_length]
    have : (List.replicate l.length (0 : Int)).getD j 0 = 0 := by
      simp only [List.getD_eq_getElem?_getD, List.getElem?_replicate]; split <;> rfl
    rw [this]; omega
  unfold need
  rw [List.drop_zero, h0, h0]
  by_cases h : k = l.length - 1
  · subst h
    rw [if_pos ⟨by simp, hk⟩, if_pos rfl]
    simp
  · rw [if_neg (fun h' => h (by have := h'.1; simpa using this)), if_neg h]
    simp
theorem len_le {α : Type} [BEq α] [LawfulBEq α] : ∀ {a b : List α}, a.Nodup → (∀ x ∈ a, x ∈ b) → a.length ≤ b.length
  | [], _, _, _ => Nat.zero_le _
  | x :: a, b, hn, h => by
    obtain ⟨hx, hn⟩ := List.nodup_cons.1 hn
    have hxb := h x (by simp)
    have h1 : a.length ≤ (b.erase x).length := len_le hn fun y hy => (List.mem_erase_of_ne (fun e => hx (by rw [← e]; exact hy))).2 (h y (by simp [hy]))
    rw [List.length_erase_of_mem hxb] at h1
    have := List.length_pos_of_mem hxb
    simp only [List.length_cons]
    omega

/-- the registers at some point: the free ones, and those of results that are still needed -/
structure Mid (i cnt : Nat) (reg left sp : List Int) : Prop where
  nodup : sp.Nodup
  spB : ∀ r ∈ sp, 0 ≤ r ∧ r < cnt
  regB : ∀ k, k < i → 0 ≤ reg.getD k 0 ∧ reg.getD k 0 < cnt
  busy : ∀ k, k < i → 0 < left.getD k 0 → reg.getD k 0 ∉ sp
  apart : ∀ k k', k < i → k' < i → k ≠ k' → 0 < left.getD k 0 → 0 < left.getD k' 0 → reg.getD k 0 ≠ reg.getD k' 0
  all : ∀ r : Int, 0 ≤ r → r < cnt → r ∈ sp ∨ ∃ k, k < i ∧ 0 < left.getD k 0 ∧ reg.getD k 0 = r
theorem Mid.take1 {i cnt : Nat} {reg : List Int} {p q : List Int × List Int} {k : Int} (h : Mid i cnt reg p.1 p.2) (hk : 0 ≤ k ∧ k < i) (hl : i ≤ p.1.length) (hpos : 0 < p.1.getD k.toNat 0) (ht : Take1 reg k p q) : Mid i cnt reg q.1 q.2 := by
  obtain ⟨left, sp⟩ := p
  obtain ⟨left', sp'⟩ := q
  obtain ⟨rfl, h0, h1⟩ := ht
  simp only at *
  have hg : ∀ j, (bump (-1) left k).getD j 0 = if j = k.toNat then left.getD j 0 - 1 else left.getD j 0 := by
    intro j
    rw [getD_bump]
    by_cases hj : j = k.toNat
    · subst hj; rw [if_pos ⟨rfl, by omega⟩, if_pos rfl]; omega
    · rw [if_neg (fun h => hj h.1), if_neg hj]
  have hle : ∀ j, 0 < (bump (-1) left k).getD j 0 → 0 < left.getD j 0 := fun j hj => by
    rw [hg] at hj; split at hj <;> omega
  by_cases hz : (bump (-1) left k).getD k.toNat 0 = 0
  · obtain ⟨hp, _⟩ := h0 hz
    have hmem : ∀ r, r ∈ sp' ↔ r = reg.getD k.toNat 0 ∨ r ∈ sp := fun r => by rw [hp.mem_iff, List.mem_cons]
    have hkb := h.busy k.toNat (by omega) hpos
    refine ⟨?_, ?_, h.regB, ?_, fun k1 k2 a b c d e => h.apart k1 k2 a b c (hle _ d) (hle _ e), ?_⟩
    · rw [hp.nodup_iff, List.nodup_cons]; exact ⟨hkb, h.nodup⟩
    · intro r hr
      rcases (hmem r).1 hr with rfl | hr
      · exact h.regB _ (by omega)
      · exact h.spB r hr
    · intro k1 hk1 hb hm
      have hne : k1 ≠ k.toNat := fun e => by rw [e, hz] at hb; omega
      rcases (hmem _).1 hm with e | hm
      · exact h.apart k1 k.toNat hk1 (by omega) hne (hle _ hb) hpos e
      · exact h.busy k1 hk1 (hle _ hb) hm
    · intro r hr0 hr1
      rcases h.all r hr0 hr1 with hr | ⟨k1, hk1, hb, e⟩
      · exact .inl ((hmem r).2 (.inr hr))
      · by_cases hk1k : k1 = k.toNat
        · subst hk1k; exact .inl ((hmem r).2 (.inl e.symm))
        · exact .inr ⟨k1, hk1, by rw [hg, if_neg hk1k]; exact hb, e⟩
  · obtain rfl := h1 hz
    refine ⟨h.nodup, h.spB, h.regB, fun k1 a b => h.busy k1 a (hle _ b), fun k1 k2 a b c d e => h.apart k1 k2 a b c (hle _ d) (hle _ e), ?_⟩
    intro r hr0 hr1
    rcases h.all r hr0 hr1 with hr | ⟨k1, hk1, hb, e⟩
    · exact .inl hr
    · refine .inr ⟨k1, hk1, ?_, e⟩
      by_cases hk1k : k1 = k.toNat
      · subst hk1k; rw [hg, if_pos rfl] at hz ⊢; omega
      · rw [hg, if_neg hk1k]; exact hb
theorem Takes.left {reg : List Int} : ∀ {ks : List Int} {p q : List Int × List Int}, Takes reg ks p q → q.1 = ks.foldl (bump (-1)) p.1
  | [], p, q, h => by cases h; rfl
  | k :: ks, p, q, ⟨m, h, hr⟩ => by rw [hr.left, h.1]; rfl
theorem Mid.takes {i cnt : Nat} {reg : List Int} : ∀ {ks : List Int} {p q : List Int × List Int}, Mid i cnt reg p.1 p.2 → (∀ k ∈ ks, 0 ≤ k ∧ k < i) → i ≤ p.1.length → (∀ j : Nat, (ks.count (j : Int) : Nat) ≤ p.1.getD j 0) → Takes reg ks p q → Mid i cnt reg q.1 q.2
  | [], p, q, h, _, _, _, ht => by cases ht; exact h
  | k :: ks, p, q, h, hk, hl, hc, ⟨m, h1, hr⟩ => by
    have hk0 := hk k (by simp)
    have hck := hc k.toNat
    have e : ((k.toNat : Nat) : Int) = k := by omega
    rw [e, List.count_cons_self] at hck
    refine (h.take1 hk0 hl (by omega) h1).takes (fun k' hk' => hk k' (by simp [hk'])) (by rw [h1.1, bump_length]; exact hl) (fun j => ?_) hr
    rw [h1.1, getD_bump]
    have hcj := hc j
    rw [List.count_cons] at hcj
    by_cases hj : j = k.toNat
    · subst hj
      rw [if_pos ⟨rfl, by omega⟩]
      have : (k == ((k.toNat : Nat) : Int)) = true := by simp [e]
      rw [this, if_pos rfl] at hcj
      omega
    · rw [if_neg (fun h => hj h.1)]
      omega
end Go.Proofs.Ytlcikmddmcdeeaa
