import Derived.Test.YtajbngkcgbehlaaSxH
namespace Go.SX
open Go.RowKit

def upd (ρ : Nat → Loc) (n : Nat) (l : Loc) : Nat → Loc := fun i => if i = n then l else ρ i
theorem upd_lt {ρ : Nat → Loc} {n i : Nat} {l : Loc} (h : i < n) : upd ρ n l i = ρ i := by unfold upd; rw [if_neg (by omega)]
theorem upd_same {ρ : Nat → Loc} {n : Nat} {l : Loc} : upd ρ n l n = l := by unfold upd; simp

theorem Ent.lt.mono {a b : Nat} {e : Ent} (h : e.lt a) (hab : a ≤ b) : e.lt b := fun i hi => Nat.lt_of_lt_of_le (h i hi) hab

/-- A new entry, of its own footprint. -/
theorem AbsR.add {B : Base} {R : Nat → Prop} {φ : Nat → Nat → Prop} {ρ : Nat → Loc} {nx : Nat} {H : Heap} {S : Asn} {w : World} (h : AbsR B R φ ρ nx H S w) {e : Ent} {l : Loc} {F : Nat → Prop} (hlt : e.lt nx)
    (he : e.holds ρ l F w) (hR : ∀ b, F b → ¬ R b) (hF : ∀ p ∈ H, ∀ b, φ p.1 b → ¬ F b) :
    AbsR B R (fun i => if i = nx then F else φ i) (upd ρ nx l) (nx + 1) ((nx, e) :: H) S w where
  os := h.os
  tape := h.tape
  output := h.output
  size := h.size
  pin := fun p hp => ⟨Nat.lt_succ_of_lt (h.pin p hp).1, by rw [upd_lt (h.pin p hp).1]; exact (h.pin p hp).2⟩
  ro := h.ro
  asn := h.asn
  key := fun p hp => by
    rcases List.mem_cons.1 hp with rfl | hp
    · exact ⟨Nat.lt_succ_self _, hlt.mono (Nat.le_succ _)⟩
    · exact ⟨Nat.lt_succ_of_lt (h.key p hp).1, (h.key p hp).2.mono (Nat.le_succ _)⟩
  ent := fun p hp => by
    rcases List.mem_cons.1 hp with rfl | hp
    · simp only [upd_same, if_true]
      exact Ent.holds_congr (fun i hi => (upd_lt (hlt i hi)).symm) he
    · have hk := h.key p hp
      have : p.1 ≠ nx := by omega
      simp only [upd_lt hk.1, if_neg this]
      exact Ent.holds_congr (fun i hi => (upd_lt (hk.2 i hi)).symm) (h.ent p hp)
  apart := fun p hp b hb => by
    rcases List.mem_cons.1 hp with rfl | hp
    · simp only [if_true] at hb; exact hR b hb
    · have hk := h.key p hp
      have : p.1 ≠ nx := by omega
      simp only [if_neg this] at hb
      exact h.apart p hp b hb
  sep := by
    refine List.pairwise_cons.2 ⟨fun p hp => ?_, ?_⟩
    · have hk := h.key p hp
      have hne : p.1 ≠ nx := by omega
      refine ⟨by simpa using hne.symm, fun b hb hb' => ?_⟩
      simp only [if_true, if_neg hne] at hb hb'
      exact hF p hp b hb' hb
    · refine List.Pairwise.imp_of_mem (R := fun p q => p.1 ≠ q.1 ∧ ∀ b, φ p.1 b → ¬ φ q.1 b) (fun {p q} hp hq hpq => ?_) h.sep
      have h1 : p.1 ≠ nx := by have := (h.key p hp).1; omega
      have h2 : q.1 ≠ nx := by have := (h.key q hq).1; omega
      exact ⟨hpq.1, by simpa only [if_neg h1, if_neg h2] using hpq.2⟩

theorem ext_alloc (w : World) (o : Obj) : Ext w (w.alloc o) := (Below.refl _ _).alloc (Nat.le_refl _) o

theorem Abs.alloc {B : Base} {ρ : Nat → Loc} {nx : Nat} {H : Heap} {S : Asn} {w : World} (h : Abs B ρ nx H S w) {e : Ent} {l : Loc} {o : Obj} (hlt : e.lt nx)
    (he : e.holds ρ l (fun b => b = w.heap.size) (w.alloc o)) : Abs B (upd ρ nx l) (nx + 1) ((nx, e) :: H) S (w.alloc o) := by
  obtain ⟨R, φ, h⟩ := h
  have h' := h.step (Step.of_ext (ext_alloc w o)) (fun _ _ h => h) (fun _ _ _ _ h => h)
  exact ⟨R, _, h'.add hlt he (fun b hb hR => by subst hb; exact absurd (h.ro _ hR) (by omega)) (fun p hp b hb hb' => by
    subst hb'; exact absurd (Ent.size (h.ent p hp) hb) (by omega))⟩

/-- Take an entry away. -/
theorem AbsR.drop {B : Base} {R : Nat → Prop} {φ : Nat → Nat → Prop} {ρ : Nat → Loc} {nx : Nat} {H H' : Heap} {S : Asn} {w : World} (h : AbsR B R φ ρ nx H S w) (hs : H'.Sublist H) : AbsR B R φ ρ nx H' S w where
  os := h.os
  tape := h.tape
  output := h.output
  size := h.size
  pin := h.pin
  ro := h.ro
  asn := h.asn
  key := fun p hp => h.key p (hs.subset hp)
  ent := fun p hp => h.ent p (hs.subset hp)
  apart := fun p hp => h.apart p (hs.subset hp)
  sep := h.sep.sublist hs

/-- Another entry in one's place. -/
def setH (i : Nat) (e : Ent) : Heap → Heap
  | [] => []
  | (j, e') :: r => bif Nat.beq j i then (j, e) :: r else (j, e') :: setH i e r
def setHK (i : Nat) (e : Ent) (K : Heap → Prop) : Heap → Prop
  | [] => K []
  | (j, e') :: r => bif Nat.beq j i then K ((j, e) :: r) else setHK i e (fun r' => K ((j, e') :: r')) r
theorem setHK_eq (i : Nat) (e : Ent) : ∀ (H : Heap) (K : Heap → Prop), setHK i e K H = K (setH i e H)
  | [], _ => rfl
  | (j, e') :: r, K => by
    unfold setHK setH
    cases hb : Nat.beq j i with
    | true => rfl
    | false => exact setHK_eq i e r _
def delH (i : Nat) : Heap → Heap
  | [] => []
  | (j, e) :: r => bif Nat.beq j i then r else (j, e) :: delH i r
def delHK (i : Nat) (K : Heap → Prop) : Heap → Prop
  | [] => K []
  | (j, e) :: r => bif Nat.beq j i then K r else delHK i (fun r' => K ((j, e) :: r')) r
theorem delHK_eq (i : Nat) : ∀ (H : Heap) (K : Heap → Prop), delHK i K H = K (delH i H)
  | [], _ => rfl
  | (j, e') :: r, K => by
    unfold delHK delH
    cases hb : Nat.beq j i with
    | true => rfl
    | false => exact delHK_eq i r _
theorem delH_sublist (i : Nat) : ∀ H : Heap, (delH i H).Sublist H
  | [] => .slnil
  | (j, e) :: r => by
    unfold delH
    cases hb : Nat.beq j i with
    | true => exact List.sublist_cons_self _ _
    | false => exact (delH_sublist i r).cons_cons _
theorem mem_setH {i : Nat} {e : Ent} : ∀ {H : Heap} {p : Nat × Ent}, p ∈ setH i e H → (p = (i, e) ∧ ∃ e', (i, e') ∈ H) ∨ (p ∈ H)
  | [], p, h => by simp [setH] at h
  | (j, e') :: r, p, h => by
    unfold setH at h
    cases hb : Nat.beq j i with
    | true =>
      rw [hb, cond_true] at h
      have := Nat.eq_of_beq_eq_true hb
      subst this
      rcases List.mem_cons.1 h with h | h
      · exact .inl ⟨h, e', by simp⟩
      · exact .inr (by simp [h])
    | false =>
      rw [hb, cond_false] at h
      rcases List.mem_cons.1 h with h | h
      · exact .inr (by simp [h])
      · rcases mem_setH h with ⟨h1, e'', h2⟩ | h1
        · exact .inl ⟨h1, e'', by simp [h2]⟩
        · exact .inr (by simp [h1])
theorem keys_setH (i : Nat) (e : Ent) : ∀ H : Heap, (setH i e H).map (·.1) = H.map (·.1)
  | [] => rfl
  | (j, e') :: r => by
    unfold setH
    cases hb : Nat.beq j i with
    | true => rfl
    | false => simp [keys_setH i e r]

theorem keys_unique {H : Heap} {i : Nat} {e e' : Ent} {Q : Nat × Ent → Nat × Ent → Prop} (hs : H.Pairwise fun p q => p.1 ≠ q.1 ∧ Q p q) (h1 : (i, e) ∈ H) (h2 : (i, e') ∈ H) : e = e' := by
  induction H with
  | nil => cases h1
  | cons p r ih =>
    obtain ⟨hp, hr⟩ := List.pairwise_cons.1 hs
    rcases List.mem_cons.1 h1 with g1 | g1 <;> rcases List.mem_cons.1 h2 with g2 | g2
    · rw [← g1] at g2; exact (by simpa using g2.symm)
    · rw [← g1] at hp; exact absurd rfl (hp _ g2).1
    · rw [← g2] at hp; exact absurd rfl (hp _ g1).1
    · exact ih hr g1 g2

theorem mem_setH_self {i : Nat} {e : Ent} : ∀ {H : Heap} {e' : Ent}, (i, e') ∈ H → (i, e) ∈ setH i e H
  | [], _, h => by cases h
  | (j, e'') :: r, e', h => by
    unfold setH
    cases hb : Nat.beq j i with
    | true => have := Nat.eq_of_beq_eq_true hb; subst this; exact List.mem_cons_self
    | false =>
      have hne := Nat.ne_of_beq_eq_false hb
      rcases List.mem_cons.1 h with h | h
      · exact absurd (by simpa using congrArg Prod.fst h.symm) hne
      · exact List.mem_cons_of_mem _ (mem_setH_self h)

/-- A store into an entry's own blocks: the entry's place stays. -/
theorem AbsR.store {B : Base} {R : Nat → Prop} {φ : Nat → Nat → Prop} {ρ : Nat → Loc} {nx : Nat} {H : Heap} {S : Asn} {w w' : World} {i : Nat} {e e' : Ent} (h : AbsR B R φ ρ nx H S w) (hi : (i, e) ∈ H) (hlt : e'.lt nx)
    (hst : ∀ F, e.holds ρ (ρ i) F w → Step F w w' ∧ e'.holds ρ (ρ i) F w') : AbsR B R φ ρ nx (setH i e' H) S w' := by
  obtain ⟨hs, he'⟩ := hst (φ i) (h.ent _ hi)
  have hR : ∀ b, R b → ¬ φ i b := fun b hb hb' => h.apart _ hi b hb' hb
  refine ⟨hs.os.trans h.os, hs.tape.trans h.tape, hs.output.trans h.output, Nat.le_trans h.size hs.size, h.pin, fun b hb => Nat.lt_of_lt_of_le (h.ro b hb) hs.size,
    S.stable (fun _ hb => hb) (fun b hb => hs.block b (h.ro b hb) (hR b hb)) h.asn, ?_, ?_, ?_, ?_⟩
  · intro p hp
    rcases mem_setH hp with ⟨rfl, _⟩ | hp
    · exact ⟨(h.key _ hi).1, hlt⟩
    · exact h.key p hp
  · intro p hp
    rcases mem_setH hp with ⟨rfl, _⟩ | hp'
    · exact he'
    · by_cases hpi : p.1 = i
      · obtain ⟨pi, pe⟩ := p
        simp only at hpi
        subst hpi
        have h1 : pe = e := keys_unique h.sep hp' hi
        have hk : (setH pi e' H).Pairwise fun p q => p.1 ≠ q.1 ∧ True := by
          have : ((setH pi e' H).map (·.1)).Pairwise (· ≠ ·) := by
            rw [keys_setH]; exact List.pairwise_map.2 (h.sep.imp fun x => x.1)
          exact (List.pairwise_map.1 this).imp fun x => ⟨x, trivial⟩
        have h2 : pe = e' := keys_unique hk hp (mem_setH_self hi)
        subst h2
        exact he'
      · have hd : ∀ b, φ p.1 b → ¬ φ i b := by
          intro b hb hb'
          have : ∀ {H : Heap}, H.Pairwise (fun p q => p.1 ≠ q.1 ∧ ∀ b, φ p.1 b → ¬ φ q.1 b) → ∀ {p q : Nat × Ent}, p ∈ H → q ∈ H → p.1 ≠ q.1 → ∀ b, φ p.1 b → ¬ φ q.1 b := by
            intro H hs
            induction H with
            | nil => intro p q hp; cases hp
            | cons x r ih =>
              obtain ⟨hx, hr⟩ := List.pairwise_cons.1 hs
              intro p q hp hq hne b hb hb'
              rcases List.mem_cons.1 hp with gp | gp <;> rcases List.mem_cons.1 hq with gq | gq
              · exact hne (by rw [gp, gq])
              · rw [← gp] at hx; exact (hx _ gq).2 b hb hb'
              · rw [← gq] at hx; exact (hx _ gp).2 b hb' hb
              · exact ih hr gp gq hne b hb hb'
          exact this h.sep hp' hi hpi b hb hb'
        exact Ent.stable (fun b hb => hs.block b (Ent.size (h.ent p hp') hb) (hd b hb)) (h.ent p hp')
  · intro p hp b hb
    rcases mem_setH hp with ⟨rfl, _⟩ | hp'
    · exact h.apart _ hi b hb
    · exact h.apart p hp' b hb
  · have h1 : ((setH i e' H).map (·.1)).Pairwise (fun a b => a ≠ b ∧ ∀ x, φ a x → ¬ φ b x) := by
      rw [keys_setH]; exact List.pairwise_map.2 h.sep
    exact List.pairwise_map.1 h1
theorem Abs.store {B : Base} {ρ : Nat → Loc} {nx : Nat} {H : Heap} {S : Asn} {w w' : World} {i : Nat} {e e' : Ent} (h : Abs B ρ nx H S w) (hi : (i, e) ∈ H) (hlt : e'.lt nx)
    (hst : ∀ F, e.holds ρ (ρ i) F w → Step F w w' ∧ e'.holds ρ (ρ i) F w') : Abs B ρ nx (setH i e' H) S w' := by
  obtain ⟨R, φ, h⟩ := h
  exact ⟨R, φ, h.store hi hlt hst⟩

end Go.SX
