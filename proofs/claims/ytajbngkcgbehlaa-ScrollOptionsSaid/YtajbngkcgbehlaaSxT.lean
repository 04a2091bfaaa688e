import Derived.Test.YtajbngkcgbehlaaSxS
namespace Go.SX
open Go.RowKit

/-! ### From one's own rows to rows that stay, and back -/
theorem rowsA_in {base : Option Addr} {k : Nat} {xs : List (List Value)} {R : Nat → Prop} {w : World} (h : (rowsA base k xs).holds R w) : RowsI w base k xs := by
  rcases h.2 with h | ⟨b, off, h1, _, h3⟩
  · exact .inl h
  · exact .inr ⟨_, h1, fun i r hi j v hj => by rw [add_none]; exact h3 i r hi j v hj⟩
theorem rowsA_ro {a : Addr} {k m : Nat} {S : Asn} {xs : List (List Value)} {K : List (List Value) → Prop} (hm : xs.length = m) (hS : ∀ R w, S.holds R w → (rowsA (some a) k xs).holds R w) (hx : ∀ r ∈ xs, r.length = k ∧ ∀ v ∈ r, v.oneCell' = true) (h : K xs) : roRowsK a m k S K := by
  rw [roRowsK_def]
  refine ⟨xs, hm, hx, fun R w hw i r hi j v hj => ?_, h⟩
  rcases rowsA_in (hS R w hw) with h0 | ⟨a', ha, h1⟩
  · subst h0; simp at hi
  · obtain rfl : a = a' := by simpa using ha
    exact h1 i r hi j v hj

/-- the same with the slice's value -/
def rowsV (v : Value) (k : Nat) (xs : List (List Value)) : Asn where
  holds R w := ∃ base cap, v = .slice base xs.length cap ∧ (rowsA base k xs).holds R w
  stable := by
    rintro R R' w w' hR hw ⟨base, cap, h1, h2⟩
    exact ⟨base, cap, h1, (rowsA base k xs).stable hR hw h2⟩

mutual
def SV.fz (i : Nat) (l : Loc) : SV → SV
  | .c v => .c v
  | .lp j a k f => bif Nat.beq j i then .c (.pointer (l.base.map (·.add (a * k + f)))) else .lp j a k f
  | .os j n => bif Nat.beq j i then .c (.slice l.base n l.cap) else .os j n
  | .agg xs => .agg (SV.fzs i l xs)
  | .tup xs => .tup (SV.fzs i l xs)
  | .fn f a b => .fn f (SV.fzs i l a) (SV.fzs i l b)
  | .ifc t v => .ifc t (v.fz i l)
def SV.fzs (i : Nat) (l : Loc) : List SV → List SV
  | [] => []
  | v :: r => v.fz i l :: SV.fzs i l r
end
mutual
theorem SV.rf_fz (i : Nat) (ρ : Nat → Loc) : ∀ v : SV, (v.fz i (ρ i)).rf ρ = v.rf ρ
  | .c _ => rfl
  | .lp j a k f => by
    simp only [SV.fz]
    cases h : Nat.beq j i with
    | true => have := Nat.eq_of_beq_eq_true h; subst this; rfl
    | false => rfl
  | .os j n => by
    simp only [SV.fz]
    cases h : Nat.beq j i with
    | true => have := Nat.eq_of_beq_eq_true h; subst this; rfl
    | false => rfl
  | .agg l => by simp only [SV.fz, SV.rf]; rw [SV.rfs_fz i ρ l]
  | .tup l => by simp only [SV.fz, SV.rf]; rw [SV.rfs_fz i ρ l]
  | .fn f a b => by simp only [SV.fz, SV.rf]; rw [SV.rfs_fz i ρ a, SV.rfs_fz i ρ b]
  | .ifc t v => by simp only [SV.fz, SV.rf]; rw [SV.rf_fz i ρ v]
theorem SV.rfs_fz (i : Nat) (ρ : Nat → Loc) : ∀ l : List SV, SV.rfs ρ (SV.fzs i (ρ i) l) = SV.rfs ρ l
  | [] => rfl
  | v :: r => by simp only [SV.fzs, SV.rfs]; rw [SV.rf_fz i ρ v, SV.rfs_fz i ρ r]
end
mutual
theorem SV.has_fz {i x : Nat} {l : Loc} : ∀ {v : SV}, (v.fz i l).has x = true → v.has x = true
  | .c _, h => h
  | .lp j a k f, h => by
    simp only [SV.fz] at h
    cases hb : Nat.beq j i with
    | true => rw [hb] at h; simp [SV.has] at h
    | false => rw [hb] at h; exact h
  | .os j n, h => by
    simp only [SV.fz] at h
    cases hb : Nat.beq j i with
    | true => rw [hb] at h; simp [SV.has] at h
    | false => rw [hb] at h; exact h
  | .agg l, h => by simp only [SV.fz, SV.has] at h ⊢; exact SV.hass_fz h
  | .tup l, h => by simp only [SV.fz, SV.has] at h ⊢; exact SV.hass_fz h
  | .fn f a b, h => by
    simp only [SV.fz, SV.has, Bool.or_eq_true] at h ⊢
    exact h.imp SV.hass_fz SV.hass_fz
  | .ifc t v, h => by simp only [SV.fz, SV.has] at h ⊢; exact SV.has_fz h
theorem SV.hass_fz {i x : Nat} {l : Loc} : ∀ {xs : List SV}, SV.hass x (SV.fzs i l xs) = true → SV.hass x xs = true
  | [], h => h
  | v :: r, h => by
    simp only [SV.fzs, SV.hass, Bool.or_eq_true] at h ⊢
    exact h.imp SV.has_fz SV.hass_fz
end
def Env.fz (i : Nat) (l : Loc) : Env → Env
  | [] => []
  | (t, v) :: r => (t, v.fz i l) :: Env.fz i l r
theorem Env.get_fz {i : Nat} {l : Loc} : ∀ {env : Env} {t : Nat} {v : SV}, (env.fz i l).get t = some v → ∃ u, env.get t = some u ∧ v = u.fz i l
  | [], t, v, h => by cases h
  | (j, u) :: r, t, v, h => by
    simp only [Env.fz, Env.get_cons] at h ⊢
    by_cases hj : j = t
    · rw [if_pos hj] at h ⊢; exact ⟨u, rfl, by simpa using h.symm⟩
    · rw [if_neg hj] at h ⊢; exact Env.get_fz h
def Ent.fz (i : Nat) (l : Loc) : Ent → Ent
  | .box cs T => .box (SV.fzs i l cs) T
  | e => e
def Heap.fz (i : Nat) (l : Loc) : Heap → Heap
  | [] => []
  | (j, e) :: r => (j, e.fz i l) :: Heap.fz i l r
theorem Heap.fz_eq (i : Nat) (l : Loc) (H : Heap) : Heap.fz i l H = H.map fun p => (p.1, p.2.fz i l) := by
  induction H with
  | nil => rfl
  | cons p r ih => obtain ⟨j, e⟩ := p; simp [Heap.fz, ih]

/-- One's own rows are written no more: from here on they stay. -/
theorem Wp.freeze {cx : Cx} {c : Code} {env : Env} {H : Heap} {S : Asn} {nx : Nat} {K : Exit → Env → Heap → Asn → Nat → Prop} (i : Nat) {xs : List (List Value)} {k : Nat} {T : TypeId} (he : (i, Ent.rows xs k T) ∈ H)
    (h : ∀ l : Loc, xs.length ≤ l.cap → Wp cx c (env.fz i l) (Heap.fz i l (delH i H)) (S.and (rowsA l.base k xs)) nx K) : Wp cx c env H S nx K := by
  simp only [Wp_def] at *
  intro ρ a w hs hw
  obtain ⟨R, φ, hw⟩ := hw
  have hent := hw.ent _ he
  obtain ⟨hr, hcap, hent'⟩ := hent
  have hdel : ∀ p ∈ delH i H, p.1 ≠ i ∧ ∀ b, φ p.1 b → ¬ φ i b := by
    have : ∀ {H : Heap}, H.Pairwise (fun p q => p.1 ≠ q.1 ∧ ∀ b, φ p.1 b → ¬ φ q.1 b) → ∀ {e : Ent}, (i, e) ∈ H → ∀ p ∈ delH i H, p.1 ≠ i ∧ ∀ b, φ p.1 b → ¬ φ i b := by
      intro H hsep
      induction H with
      | nil => intro e he; cases he
      | cons q r ih =>
        obtain ⟨hq, hr⟩ := List.pairwise_cons.1 hsep
        intro e he p hp
        obtain ⟨qi, qe⟩ := q
        unfold delH at hp
        cases hbq : Nat.beq qi i with
        | true =>
          rw [hbq, cond_true] at hp
          have := Nat.eq_of_beq_eq_true hbq
          subst this
          exact ⟨(hq p hp).1.symm, fun b hb hb' => (hq p hp).2 b hb' hb⟩
        | false =>
          rw [hbq, cond_false] at hp
          have hne := Nat.ne_of_beq_eq_false hbq
          have her : (i, e) ∈ r := (List.mem_cons.1 he).resolve_left (fun g => hne (by simpa using congrArg Prod.fst g.symm))
          rcases List.mem_cons.1 hp with g | g
          · subst g; exact ⟨hne, (hq _ her).2⟩
          · exact ih hr her p g
    exact this hw.sep he
  refine h (ρ i) hcap ρ a w ⟨hs.defers, hs.size, fun t v hv ht => ?_, fun t v hv => ?_⟩ ?_
  · obtain ⟨u, hu, rfl⟩ := Env.get_fz hv
    rw [hs.val t u hu ht, SV.rf_fz]
  · obtain ⟨u, hu, rfl⟩ := Env.get_fz hv
    exact fun x hx => hs.lt t u hu x (SV.has_fz hx)
  · have hsub := hw.drop (delH_sublist i H)
    refine ⟨fun b => R b ∨ φ i b, φ, hw.os, hw.tape, hw.output, hw.size, hw.pin, fun b hb => hb.elim (hw.ro b) (fun hb => Ent.size (hw.ent _ he) hb), ⟨S.stable (fun _ h => .inl h) (fun _ _ => rfl) hw.asn, ?_⟩, ?_, ?_, ?_, ?_⟩
    · refine ⟨hr, ?_⟩
      rcases hent' with ⟨h1, h2, _⟩ | ⟨b, off, c', h1, h2, h3, h4, h5⟩
      · simp only at hcap h2; exact .inl (List.eq_nil_of_length_eq_zero (by omega))
      · exact .inr ⟨b, off, h1, .inr ((h2 b).2 rfl), fun m r hm j v hj => by have := h5 m r hm j v hj; rw [← Nat.add_assoc]; simpa [World.cell?, h3] using this⟩
    · rw [Heap.fz_eq]
      intro p hp
      obtain ⟨q, hq, rfl⟩ := List.mem_map.1 hp
      refine ⟨(hsub.key q hq).1, fun x hx => ?_⟩
      cases hqe : q.2 with
      | box cs T =>
        rw [hqe] at hx
        have := (hsub.key q hq).2
        rw [hqe] at this
        exact this x (SV.hass_fz hx)
      | rows xs k T => rw [hqe] at hx; simp [Ent.fz, Ent.hass] at hx
      | ext o => rw [hqe] at hx; simp [Ent.fz, Ent.hass] at hx
    · rw [Heap.fz_eq]
      intro p hp
      obtain ⟨q, hq, rfl⟩ := List.mem_map.1 hp
      have := hsub.ent q hq
      dsimp only
      cases hqe : q.2 with
      | box cs T =>
        rw [hqe] at this
        obtain ⟨b, h1, h2, h3⟩ := this
        exact ⟨b, h1, h2, by rw [SV.rfs_fz]; exact h3⟩
      | rows xs k T => rw [hqe] at this; exact this
      | ext o => rw [hqe] at this; exact this
    · rw [Heap.fz_eq]
      intro p hp b hb hb'
      obtain ⟨q, hq, rfl⟩ := List.mem_map.1 hp
      exact hb'.elim (hsub.apart q hq b hb) ((hdel q hq).2 b hb)
    · rw [Heap.fz_eq]
      exact List.pairwise_map.2 hsub.sep

/-! ### Calls that hand back new rows, or data that stay -/
/-- new rows: in no block that was there -/
def NewRows (w w' : World) (v : Value) (k : Nat) (T : TypeId) (xs : List (List Value)) : Prop :=
  ∃ l : Loc, v = .slice l.base xs.length l.cap ∧ ∃ F : Nat → Prop, (∀ b, F b → w.heap.size ≤ b) ∧ (Ent.rows xs k T).holds (fun _ => l) l F w'

theorem new_of_abs {B : Base} {ρ : Nat → Loc} {nx : Nat} {H : Heap} {S : Asn} {w : World} {i : Nat} {xs : List (List Value)} {k : Nat} {T : TypeId} (h : Abs B ρ nx H S w) (hS : ∀ R w', S.holds R w' → (baseA B.w0).holds R w') (he : (i, Ent.rows xs k T) ∈ H) :
    NewRows B.w0 w ((SV.os i xs.length).rf ρ) k T xs := by
  obtain ⟨R, φ, h⟩ := h
  have hb := hS R w h.asn
  refine ⟨ρ i, rfl, φ i, fun b hbb => ?_, h.ent _ he⟩
  rcases Nat.lt_or_ge b B.w0.heap.size with hl | hl
  · exact absurd (hb b hl).1 (h.apart _ he b hbb)
  · exact hl

theorem call_new {cx : Cx} {f : FuncId} {args : List SV} {H : Heap} {S : Asn} {nx : Nat} {K : SV → Heap → Asn → Nat → Prop} (hf : ∀ as w, (callFunc f as).run cx.P w = .ok (.enter f as) w) (k : Nat) (T : TypeId) {α : Type} (xs : α → List (List Value)) (p : α → Prop)
    (hc : ∀ ρ w, Abs cx.B ρ nx H S w → Calls cx.P f (SV.rfs ρ args).toArray w (fun e w' => ∃ x, p x ∧ ∃ v, e = .returned v ∧ Ext w w' ∧ NewRows w w' v k T (xs x)))
    (h : ∀ x, p x → K (.os nx (xs x).length) ((nx, .rows (xs x) k T) :: H) S (nx + 1)) : callK cx f args H S nx K := by
  rw [callK_def]
  refine ⟨hf, fun ρ w hw => (hc ρ w hw).mono ?_⟩
  rintro e w' ⟨x, hp, v, rfl, he, l, rfl, F, hF, hent⟩
  have hw' := hw.ext he
  obtain ⟨R, φ, hwR⟩ := hw
  have hwR' := hwR.step (Step.of_ext he) (fun _ _ h => h) (fun _ _ _ _ h => h)
  refine ⟨.os nx (xs x).length, upd ρ nx l, _, S, nx + 1, by simp [SV.rf, upd_same], fun i hi => upd_lt hi, Nat.le_succ _, SV.lt_os (by omega), ?_, h x hp⟩
  refine ⟨R, _, hwR'.add (F := F) (fun y hy => by simp [Ent.hass] at hy) hent (fun b hb hR => ?_) (fun p hp b hb hb' => ?_)⟩
  · have := hwR.ro b hR; have := hF b hb; omega
  · have := Ent.size (hwR.ent p hp) hb; have := hF b hb'; omega

theorem call_data {cx : Cx} {f : FuncId} {args : List SV} {H : Heap} {S : Asn} {nx : Nat} {K : SV → Heap → Asn → Nat → Prop} (hf : ∀ as w, (callFunc f as).run cx.P w = .ok (.enter f as) w) {α : Type} (val : α → Value) (D : α → Asn) (p : α → Prop)
    (hc : ∀ R ρ w, Abs cx.B ρ nx H S w → S.holds R w → (∀ b, R b → b < w.heap.size) → Calls cx.P f (SV.rfs ρ args).toArray w (fun e w' => ∃ x, p x ∧ e = .returned (val x) ∧ Ext w w' ∧ (D x).holds (fun b => R b ∨ (w.heap.size ≤ b ∧ b < w'.heap.size)) w'))
    (h : ∀ x, p x → K (.c (val x)) H (S.and (D x)) nx) : callK cx f args H S nx K := by
  rw [callK_def]
  refine ⟨hf, fun ρ w hw => ?_⟩
  have hw0 := hw
  obtain ⟨R, φ, hwR⟩ := hw
  refine (hc R ρ w hw0 hwR.asn hwR.ro).mono ?_
  rintro e w' ⟨x, hp, rfl, he, hD⟩
  have hwR' := hwR.step (Step.of_ext he) (fun _ _ h => h) (fun _ _ _ _ h => h)
  refine ⟨.c (val x), ρ, H, S.and (D x), nx, rfl, fun _ _ => rfl, Nat.le_refl _, SV.lt_c _, ?_, h x hp⟩
  refine ⟨fun b => R b ∨ (w.heap.size ≤ b ∧ b < w'.heap.size), φ, hwR'.os, hwR'.tape, hwR'.output, hwR'.size, hwR'.pin, fun b hb => hb.elim (hwR'.ro b) (fun h => h.2), ⟨S.stable (fun _ h => .inl h) (fun _ _ => rfl) hwR'.asn, hD⟩, hwR'.key, hwR'.ent, fun p hp b hb hb' => ?_, hwR'.sep⟩
  rcases hb' with hb' | hb'
  · exact hwR'.apart p hp b hb hb'
  · have := Ent.size (hwR.ent p hp) hb; omega

end Go.SX
