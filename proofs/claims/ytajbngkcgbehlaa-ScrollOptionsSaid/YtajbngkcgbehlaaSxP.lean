import Derived.Test.YtajbngkcgbehlaaSxO
import Derived.Deep.LoopGhost
namespace Go.SX
open Go.RowKit

theorem Wp.mono {cx : Cx} {c : Code} {env : Env} {H : Heap} {S : Asn} {nx : Nat} {K K' : Exit → Env → Heap → Asn → Nat → Prop} (h : Wp cx c env H S nx K) (hk : ∀ e env H S nx, K e env H S nx → K' e env H S nx) : Wp cx c env H S nx K' := by
  simp only [Wp_def] at *
  intro ρ a w hs hw
  refine wp_mono (h ρ a w hs hw) ?_
  rintro e a' w' ⟨ρ', env', H', S', nx', h2, h3, h4, h5, h6⟩
  exact ⟨ρ', env', H', S', nx', h2, h3, h4, h5, hk _ _ _ _ _ h6⟩

/-- The state weakened: fewer slots, fewer entries, fewer facts; and facts drawn from it. -/
theorem Wp.weaken {cx : Cx} {c : Code} {env env2 : Env} {H H2 : Heap} {S S2 : Asn} {nx : Nat} {K : Exit → Env → Heap → Asn → Nat → Prop} (h : Wp cx c env2 H2 S2 nx K)
    (he : ∀ t v, env2.get t = some v → env.get t = some v) (hH : H2.Sublist H) (hS : ∀ R w, S.holds R w → S2.holds R w) : Wp cx c env H S nx K := by
  simp only [Wp_def] at *
  intro ρ a w hs hw
  refine h ρ a w ⟨hs.defers, hs.size, fun t v hv => hs.val t v (he t v hv), fun t v hv => hs.lt t v (he t v hv)⟩ ?_
  obtain ⟨R, φ, hw⟩ := hw
  have hw := hw.drop hH
  exact ⟨R, φ, ⟨hw.os, hw.tape, hw.output, hw.size, hw.pin, hw.ro, hS R w hw.asn, hw.key, hw.ent, hw.apart, hw.sep⟩⟩

/-- A list of new indices for old ones (none: a nil slice that has none). -/
abbrev Map := List (Nat × Option Nat)
def Map.app : Map → Nat → Option Nat
  | [], i => some i
  | (j, x) :: r, i => bif Nat.beq j i then x else Map.app r i
theorem Map.app_lt {nx : Nat} : ∀ {θ : Map}, (∀ p ∈ θ, nx ≤ p.1) → ∀ {i : Nat}, i < nx → Map.app θ i = some i
  | [], _, i, _ => rfl
  | (j, x) :: r, h, i, hi => by
    have hj := h (j, x) (by simp)
    simp only at hj
    unfold Map.app
    cases hb : Nat.beq j i with
    | true => have := Nat.eq_of_beq_eq_true hb; omega
    | false => exact Map.app_lt (fun p hp => h p (by simp [hp])) hi

mutual
def SV.bnd (n : Nat) : SV → Bool
  | .c _ => true
  | .lp i _ _ _ => !Nat.ble n i
  | .os i _ => !Nat.ble n i
  | .agg l => SV.bnds n l
  | .tup l => SV.bnds n l
  | .fn _ a b => SV.bnds n a && SV.bnds n b
  | .ifc _ v => v.bnd n
def SV.bnds (n : Nat) : List SV → Bool
  | [] => true
  | v :: r => v.bnd n && SV.bnds n r
end
theorem not_ble {n i : Nat} (h : (!Nat.ble n i) = true) : i < n := by
  rcases Nat.lt_or_ge i n with h' | h'
  · exact h'
  · rw [Nat.ble_eq_true_of_le h'] at h; cases h
mutual
theorem SV.bnd_lt {n : Nat} : ∀ {v : SV}, v.bnd n = true → v.lt n
  | .c _, _ => SV.lt_c _
  | .lp i _ _ _, h => SV.lt_lp (not_ble h)
  | .os i _, h => SV.lt_os (not_ble h)
  | .agg l, h => SV.lt_agg.2 (SV.bnds_lt h)
  | .tup l, h => SV.lt_tup.2 (SV.bnds_lt h)
  | .fn _ a b, h => by
    simp only [SV.bnd, Bool.and_eq_true] at h
    exact SV.lt_fn.2 ⟨SV.bnds_lt h.1, SV.bnds_lt h.2⟩
  | .ifc _ v, h => SV.lt_ifc.2 (SV.bnd_lt h)
theorem SV.bnds_lt {n : Nat} : ∀ {l : List SV}, SV.bnds n l = true → SV.lts n l
  | [], _ => fun i hi => by simp [SV.hass] at hi
  | v :: r, h => by
    simp only [SV.bnds, Bool.and_eq_true] at h
    have h1 := SV.bnd_lt h.1
    have h2 := SV.bnds_lt h.2
    intro i hi
    simp only [SV.hass, Bool.or_eq_true] at hi
    exact hi.elim (h1 i) (h2 i)
end

def renL (θ : Map) (ρ : Nat → Loc) : Nat → Loc := fun i => match θ.app i with | some j => ρ j | none => ⟨none, 0⟩
mutual
theorem SV.rf_ren (θ : Map) (ρ : Nat → Loc) : ∀ v : SV, (v.ren θ.app).rf ρ = v.rf (renL θ ρ)
  | .c _ => rfl
  | .lp i j k f => by
    simp only [SV.ren, SV.rf, renL]
    cases h : θ.app i <;> rfl
  | .os i len => by
    simp only [SV.ren, SV.rf, renL]
    cases h : θ.app i <;> rfl
  | .agg l => by simp only [SV.ren, SV.rf]; rw [SV.rfs_ren θ ρ l]
  | .tup l => by simp only [SV.ren, SV.rf]; rw [SV.rfs_ren θ ρ l]
  | .fn f a b => by simp only [SV.ren, SV.rf]; rw [SV.rfs_ren θ ρ a, SV.rfs_ren θ ρ b]
  | .ifc t v => by simp only [SV.ren, SV.rf]; rw [SV.rf_ren θ ρ v]
theorem SV.rfs_ren (θ : Map) (ρ : Nat → Loc) : ∀ l : List SV, SV.rfs ρ (SV.rens θ.app l) = SV.rfs (renL θ ρ) l
  | [] => rfl
  | v :: r => by simp only [SV.rens, SV.rfs]; rw [SV.rf_ren θ ρ v, SV.rfs_ren θ ρ r]
end

def envInto (θ : Map) (env : Env) : List (Nat × SV) → Prop
  | [] => True
  | (t, v) :: r => env.get t = some (v.ren θ.app) ∧ envInto θ env r
def Ent.nil : Ent → Prop
  | .rows xs _ _ => xs = []
  | _ => False
def heapInto (θ : Map) (H : Heap) : Heap → Prop
  | [] => True
  | (i, e) :: r => (match θ.app i with
    | some j => (j, e.ren θ.app) ∈ H
    | none => e.nil) ∧ heapInto θ H r
def Ent.bnd (n : Nat) : Ent → Bool
  | .box l _ => SV.bnds n l
  | _ => true
/-- indices below n, keys apart -/
def envWf (n : Nat) : Env → Bool
  | [] => true
  | (_, v) :: r => v.bnd n && envWf n r
def heapWf (n : Nat) : Heap → Bool
  | [] => true
  | (i, e) :: r => !Nat.ble n i && e.bnd n && (r.all fun p => !Nat.beq i p.1) && heapWf n r
def mapWf (nx : Nat) (θ : Map) : Heap → Bool
  | [] => θ.all fun p => Nat.ble nx p.1
  | (i, _) :: r => (r.all fun p => match θ.app i, θ.app p.1 with | some a, some b => !Nat.beq a b | _, _ => true) && mapWf nx θ r

/-- THE STATE AT HAND AS ANOTHER ONE, its new indices (from nx on) turned by θ. -/
structure Into (nx : Nat) (env : Env) (H : Heap) (S : Asn) (θ : Map) (vals : Env) (hp : Heap) (as : Asn) : Prop where
  map : mapWf nx θ hp = true
  env : envInto θ env vals
  heap : heapInto θ H hp
  asn : ∀ R w, S.holds R w → as.holds R w

theorem envInto_spec {θ : Map} {env : Env} : ∀ {vals : Env}, envInto θ env vals → ∀ {t : Nat} {v : SV}, vals.get t = some v → env.get t = some (v.ren θ.app)
  | [], _, t, v, h => by cases h
  | (j, u) :: r, hi, t, v, h => by
    rw [Env.get_cons] at h
    by_cases hj : j = t
    · subst hj
      rw [if_pos rfl] at h
      obtain rfl : u = v := by simpa using h
      exact hi.1
    · rw [if_neg hj] at h
      exact envInto_spec hi.2 h
theorem envWf_spec {n : Nat} : ∀ {vals : Env}, envWf n vals = true → ∀ {t : Nat} {v : SV}, vals.get t = some v → v.lt n
  | [], _, t, v, h => by cases h
  | (j, u) :: r, hi, t, v, h => by
    simp only [envWf, Bool.and_eq_true] at hi
    rw [Env.get_cons] at h
    by_cases hj : j = t
    · rw [if_pos hj] at h
      obtain rfl : u = v := by simpa using h
      exact SV.bnd_lt hi.1
    · rw [if_neg hj] at h
      exact envWf_spec hi.2 h
theorem heapInto_spec {θ : Map} {H : Heap} : ∀ {hp : Heap}, heapInto θ H hp → ∀ {p : Nat × Ent}, p ∈ hp → (match θ.app p.1 with | some j => (j, p.2.ren θ.app) ∈ H | none => p.2.nil)
  | [], _, p, h => by cases h
  | (i, e) :: r, hi, p, h => by
    rcases List.mem_cons.1 h with rfl | h
    · exact hi.1
    · exact heapInto_spec hi.2 h
theorem heapWf_spec {n : Nat} : ∀ {hp : Heap}, heapWf n hp = true → (∀ p ∈ hp, p.1 < n ∧ p.2.lt n) ∧ hp.Pairwise fun p q => p.1 ≠ q.1
  | [], _ => ⟨by simp, .nil⟩
  | (i, e) :: r, h => by
    simp only [heapWf, Bool.and_eq_true, List.all_eq_true, Bool.not_eq_true'] at h
    obtain ⟨⟨⟨h1, h2⟩, h3⟩, h4⟩ := h
    obtain ⟨h5, h6⟩ := heapWf_spec h4
    refine ⟨fun p hp => ?_, List.pairwise_cons.2 ⟨fun p hp => Nat.ne_of_beq_eq_false (h3 p hp), h6⟩⟩
    rcases List.mem_cons.1 hp with rfl | hp
    · refine ⟨not_ble (by simpa using h1), ?_⟩
      cases e with
      | box l T => exact fun x hx => SV.bnds_lt h2 x hx
      | rows xs k T => exact fun x hx => by simp [Ent.hass] at hx
      | ext o => exact fun x hx => by simp [Ent.hass] at hx
    · exact h5 p hp
theorem mapWf_spec {nx : Nat} {θ : Map} : ∀ {hp : Heap}, mapWf nx θ hp = true → (∀ p ∈ θ, nx ≤ p.1) ∧ hp.Pairwise fun p q => ∀ a b, θ.app p.1 = some a → θ.app q.1 = some b → a ≠ b
  | [], h => by
    simp only [mapWf, List.all_eq_true] at h
    exact ⟨fun p hp => Nat.le_of_ble_eq_true (h p hp), .nil⟩
  | (i, e) :: r, h => by
    simp only [mapWf, Bool.and_eq_true, List.all_eq_true] at h
    obtain ⟨h5, h6⟩ := mapWf_spec h.2
    refine ⟨h5, List.pairwise_cons.2 ⟨fun p hp a b ha hb => ?_, h6⟩⟩
    have := h.1 p hp
    simp only at ha
    rw [ha, hb] at this
    exact Nat.ne_of_beq_eq_false (by simpa using this)

theorem Ent.holds_ren {θ : Map} {ρ : Nat → Loc} {l : Loc} {F : Nat → Prop} {w : World} {e : Ent} (h : (e.ren θ.app).holds ρ l F w) : e.holds (renL θ ρ) l F w := by
  cases e with
  | box cs T =>
    obtain ⟨b, h1, h2, h3⟩ := h
    exact ⟨b, h1, h2, by rw [← SV.rfs_ren]; exact h3⟩
  | rows xs k T => exact h
  | ext o => exact h

theorem Into.sound {cx : Cx} {nx n1 nx' : Nat} {env : Env} {H : Heap} {S : Asn} {θ : Map} {vals : Env} {hp : Heap} {as : Asn} (h : Into nx env H S θ vals hp as) (hv : envWf n1 vals = true) (hh : heapWf n1 hp = true)
    (hn : nx ≤ n1) (hpin : ∀ p ∈ cx.B.pin, p.1 < nx) {ρ : Nat → Loc} {a : Act} {w : World} (hs : Sat cx.n ρ nx' env a) (hw : Abs cx.B ρ nx' H S w) :
    Sat cx.n (renL θ ρ) n1 vals a ∧ Abs cx.B (renL θ ρ) n1 hp as w ∧ ∀ i, i < nx → renL θ ρ i = ρ i := by
  obtain ⟨hm, he, hhp, has⟩ := h
  obtain ⟨hm1, hm2⟩ := mapWf_spec hm
  have hlow : ∀ i, i < nx → renL θ ρ i = ρ i := fun i hi => by simp only [renL, Map.app_lt hm1 hi]
  refine ⟨⟨hs.defers, hs.size, fun t v ht htn => ?_, fun t v ht => envWf_spec hv ht⟩, ?_, hlow⟩
  · rw [hs.val t _ (envInto_spec he ht) htn, SV.rf_ren]
  · obtain ⟨R, φ, hw⟩ := hw
    obtain ⟨hk1, hk2⟩ := heapWf_spec hh
    refine ⟨R, fun i x => match θ.app i with | some j => φ j x | none => False, hw.os, hw.tape, hw.output, hw.size, fun p hp => ⟨Nat.lt_of_lt_of_le (hpin p hp) hn, by rw [hlow _ (hpin p hp)]; exact (hw.pin p hp).2⟩, hw.ro, has R w hw.asn, hk1, ?_, ?_, ?_⟩
    · intro p hp
      have := heapInto_spec hhp hp
      cases hq : θ.app p.1 with
      | some j =>
        rw [hq] at this
        have h1 := Ent.holds_ren (hw.ent _ this)
        have : renL θ ρ p.1 = ρ j := by simp only [renL, hq]
        rw [this]
        simpa only [hq] using h1
      | none =>
        rw [hq] at this
        have hl : renL θ ρ p.1 = ⟨none, 0⟩ := by simp only [renL, hq]
        rw [hl]
        cases hpe : p.2 with
        | rows xs k T =>
          rw [hpe] at this
          have hx : xs = [] := this
          subst hx
          exact ⟨by simp, Nat.le_refl _, .inl ⟨rfl, rfl, fun x hx => by simp [hq] at hx⟩⟩
        | box l T => rw [hpe] at this; exact this.elim
        | ext o => rw [hpe] at this; exact this.elim
    · intro p hp b hb
      have := heapInto_spec hhp hp
      cases hq : θ.app p.1 with
      | some j =>
        rw [hq] at this
        simp only [hq] at hb
        exact hw.apart _ this b hb
      | none => simp only [hq] at hb
    · have hboth := hk2.and hm2
      refine List.Pairwise.imp_of_mem (R := fun p q => p.1 ≠ q.1 ∧ ∀ a b, θ.app p.1 = some a → θ.app q.1 = some b → a ≠ b) (fun {p q} hp hq hpq => ⟨hpq.1, fun b hb hb' => ?_⟩) hboth
      have h1 := heapInto_spec hhp hp
      have h2 := heapInto_spec hhp hq
      cases hq1 : θ.app p.1 with
      | none => simp only [hq1] at hb
      | some j1 =>
        cases hq2 : θ.app q.1 with
        | none => simp only [hq2] at hb'
        | some j2 =>
          rw [hq1] at h1
          rw [hq2] at h2
          simp only [hq1] at hb
          simp only [hq2] at hb'
          have hne := hpq.2 j1 j2 hq1 hq2
          have apart : ∀ {H : Heap}, H.Pairwise (fun p q => p.1 ≠ q.1 ∧ ∀ b, φ p.1 b → ¬ φ q.1 b) → ∀ {p q : Nat × Ent}, p ∈ H → q ∈ H → p.1 ≠ q.1 → ∀ b, φ p.1 b → ¬ φ q.1 b := by
            intro H hs
            induction H with
            | nil => intro p q hp; cases hp
            | cons x r ih =>
              obtain ⟨hx, hr⟩ := List.pairwise_cons.1 hs
              intro p q hp hq hne b hb hb'
              rcases List.mem_cons.1 hp with gp | gp <;> rcases List.mem_cons.1 hq with gq | gq
              · exact hne (by rw [gp, gq])
              · rw [← gp] at hx; exact (hx _ gq).2 b hb hb'
              · rw [← gq] at hx; exact (hx _ gp).2 b hb' hb
              · exact ih hr gp gq hne b hb hb'
          exact apart hw.sep h1 h2 hne b hb hb'

/-- A LOOP. σ: what its states go by; vals: its slots; hp: its entries; as: its facts; n1: its indices are below. -/
theorem Wp.loop {cx : Cx} {body : Code} {env : Env} {H : Heap} {S : Asn} {nx : Nat} {K : Exit → Env → Heap → Asn → Nat → Prop} {σ : Type} (n1 : Nat) (vals : σ → Env) (hp : σ → Heap) (as : σ → Asn) (Inv : σ → Prop) (μ : σ → Nat) (s0 : σ) (θ0 : Map)
    (hn : nx ≤ n1) (hwf : ∀ s, envWf n1 (vals s) = true ∧ heapWf n1 (hp s) = true) (h0 : Inv s0) (hi : Into nx env H S θ0 (vals s0) (hp s0) (as s0))
    (hbody : ∀ s, Inv s → Wp cx body (vals s) (hp s) (as s) n1 (fun e env' H' S' nx' => match e with
      | .normal => ∃ s' θ, Inv s' ∧ μ s' < μ s ∧ Into nx env' H' S' θ (vals s') (hp s') (as s')
      | e => K e env' H' S' nx')) : Wp cx (.loop body) env H S nx K := by
  simp only [Wp_def] at *
  intro ρ a w hs hw
  have hpin : ∀ p ∈ cx.B.pin, p.1 < nx := by
    obtain ⟨R, φ, hw⟩ := hw
    exact fun p hp => (hw.pin p hp).1
  refine wp_loop_ghost (fun m a' w' => ∃ s ρh, Inv s ∧ μ s = m ∧ (∀ i, i < nx → ρh i = ρ i) ∧ Sat cx.n ρh n1 (vals s) a' ∧ Abs cx.B ρh n1 (hp s) (as s) w') (μ s0) ?_ ?_
  · obtain ⟨h1, h2, h3⟩ := hi.sound (hwf s0).1 (hwf s0).2 hn hpin hs hw
    exact ⟨s0, _, h0, rfl, h3, h1, h2⟩
  · rintro m a' w' ⟨s, ρh, h1, rfl, h2, h3, h4⟩
    refine wp_mono (hbody s h1 ρh a' w' h3 h4) ?_
    rintro e a'' w'' ⟨ρ', env', H', S', nx', g1, g2, g3, g4, g5⟩
    cases e with
    | normal =>
      obtain ⟨s', θ, k1, k2, k3⟩ := g5
      obtain ⟨k4, k5, k6⟩ := k3.sound (hwf s').1 (hwf s').2 hn hpin g3 g4
      exact ⟨μ s', k2, s', _, k1, rfl, fun i hi => (k6 i hi).trans ((g1 i (Nat.lt_of_lt_of_le hi hn)).trans (h2 i hi)), k4, k5⟩
    | _ => exact ⟨ρ', env', H', S', nx', fun i hi => (g1 i (Nat.lt_of_lt_of_le hi hn)).trans (h2 i hi), Nat.le_trans hn g2, g3, g4, g5⟩
end Go.SX
