import Derived.Test.YtajbngkcgbehlaaSxC
namespace Go.SX
open Go.RowKit

theorem add_none (b off n : Nat) : (Addr.mk b off none).add n = ⟨b, off + n, none⟩ := by
  unfold Addr.add; split <;> simp_all

def loadQ (cx : Cx) (t : TypeId) (p : SV) (H : Heap) (S : Asn) (K : SV → Prop) : Prop :=
  tabK t (fun ti => match p with
    | .lp i j k f => findK i (fun e => match e with
        | .box l _ => bif ti.agg then segK (fun r => K (.agg r)) l (j * k + f) ti.size else nthK K l (j * k + f)
        | .rows xs k' _ => bif Nat.beq k k' then (bif ti.agg then rowAggK xs j f ti.size (fun l => K (.agg (cs l))) else rowK xs j f fun v => K (.c v)) else False
        | .ext _ => False) H
    | .c (.pointer (some a)) => bif ti.agg then roAggK a ti.size S (fun l => K (.agg (cs l))) else roK a S K
    | _ => False) cx.tab

theorem run_loadVar_one {P : Program} {t : TypeId} {ti : TI} (h : mkTI P t = some ti) (hag : ti.agg = false) {w : World} {a : Addr} {v : Value} (hc : w.cell? a = some v) :
    (loadVar t a).run P w = .ok v w := by
  obtain ⟨i, d, z, hi, hd, hz0, rfl⟩ := mkTI_spec h
  unfold loadVar
  simp only [Sem.run_bind, run_isAgg_of hd, Result.andThen_ok]
  simp only at hag
  simp [hag, hc]

theorem run_loadVar_agg {P : Program} {t : TypeId} {ti : TI} (h : mkTI P t = some ti) (hag : ti.agg = true) {w : World} {a : Addr} {l : List Value} (hl : l.length = ti.size)
    (hc : ∀ j v, l[j]? = some v → w.cell? (a.add j) = some v) : (loadVar t a).run P w = .ok (.agg l.toArray) w := by
  obtain ⟨i, d, z, hi, hd, hz0, rfl⟩ := mkTI_spec h
  unfold loadVar
  simp only [Sem.run_bind, run_isAgg_of hd, Result.andThen_ok]
  simp only at hag hl
  have := run_loadCells_list (P := P) w a l hc
  simp [hag, run_sizeOf_of hi, ← hl, this]

theorem map_add_some {base : Option Addr} {b off : Nat} (h : base = some ⟨b, off, none⟩) (n : Nat) : base.map (·.add n) = some ⟨b, off + n, none⟩ := by
  subst h; simp [add_none]

theorem loadQ_sound {cx : Cx} (hok : ∀ p ∈ cx.tab, mkTI cx.P p.1 = some p.2) {t : TypeId} {p : SV} {ρ : Nat → Loc} {nx : Nat} {H : Heap} {S : Asn} {K : SV → Prop}
    (h : loadQ cx t p H S K) (hH : ∀ q ∈ H, q.2.lt nx) : ∃ v, v.lt nx ∧ K v ∧ ∀ w, Abs cx.B ρ nx H S w → (Instr.loadAt t (p.rf ρ)).run cx.P w = .ok (v.rf ρ) w := by
  unfold loadQ at h
  obtain ⟨ti, hti, h⟩ := tabK_spec hok h
  cases p with
  | lp i j k f =>
    obtain ⟨e, he, h⟩ := findK_spec h
    cases e with
    | box l T =>
      dsimp only at h
      have hlt := hH _ he
      cases hag : ti.agg with
      | true =>
        rw [hag, cond_true] at h
        obtain ⟨r, hr1, hr2, hr3⟩ := segK_spec h
        refine ⟨_, ?_, hr3, fun w hw => ?_⟩
        · rw [SV.lt_agg, SV.lts_iff]
          intro v hv x hx
          obtain ⟨n, hn⟩ := List.getElem?_of_mem hv
          exact hlt x ((SV.hass_iff x l).2 ⟨v, List.mem_of_getElem? (hr2 n v hn), hx⟩)
        · obtain ⟨R, φ, hw⟩ := hw
          obtain ⟨b, hb1, hb2, hb3⟩ := hw.ent _ he
          simp only at hb1
          simp only [SV.rf, map_add_some hb1, Instr.loadAt, Instr.sureAddr, Sem.run_bind, Sem.run_pure, Result.andThen_ok, Nat.zero_add]
          refine run_loadVar_agg hti hag (by simp [SV.rfs_eq, hr1]) fun n v hn => ?_
          rw [add_none]
          simp only [SV.rfs_eq, List.getElem?_map, Option.map_eq_some_iff] at hn
          obtain ⟨u, hu, rfl⟩ := hn
          have := hr2 n u hu
          simp [World.cell?, hb3, SV.rfs_eq, this]
      | false =>
        rw [hag, cond_false] at h
        obtain ⟨v, hv1, hv2⟩ := nthK_spec h
        refine ⟨v, fun x hx => hlt x ((SV.hass_iff x l).2 ⟨v, List.mem_of_getElem? hv1, hx⟩), hv2, fun w hw => ?_⟩
        obtain ⟨R, φ, hw⟩ := hw
        obtain ⟨b, hb1, hb2, hb3⟩ := hw.ent _ he
        simp only at hb1
        simp only [SV.rf, map_add_some hb1, Instr.loadAt, Instr.sureAddr, Sem.run_bind, Sem.run_pure, Result.andThen_ok, Nat.zero_add]
        exact run_loadVar_one hti hag (by simp [World.cell?, hb3, SV.rfs_eq, hv1])
    | rows xs k' T =>
      dsimp only at h
      cases hk : Nat.beq k k' with
      | false => rw [hk] at h; exact h.elim
      | true =>
        rw [hk, cond_true] at h
        obtain rfl := Nat.eq_of_beq_eq_true hk
        cases hag : ti.agg with
        | true =>
          rw [hag, cond_true] at h
          rw [rowAggK_def] at h
          obtain ⟨r, l, h1, h2, h3, h4⟩ := h
          refine ⟨_, SV.lt_agg.2 (lts_cs _ _), h4, fun w hw => ?_⟩
          obtain ⟨R, φ, hw⟩ := hw
          obtain ⟨hr, hcap, hent⟩ := hw.ent _ he
          have hjl : j < xs.length := (List.getElem?_eq_some_iff.1 h1).1
          rcases hent with ⟨hb, hc0, _⟩ | ⟨b, off, c, hb1, hb2, hb3, hb4, hb5⟩
          · exfalso; omega
          · simp only at hb1
            simp only [SV.rf, map_add_some hb1, Instr.loadAt, Instr.sureAddr, Sem.run_bind, Sem.run_pure, Result.andThen_ok]
            rw [rfs_cs]
            refine run_loadVar_agg hti hag h2 fun n v hn => ?_
            rw [add_none]
            have hr' : r[f + n]? = some v := by
              rw [← h3] at hn
              rw [List.getElem?_take] at hn
              split at hn
              · rw [List.getElem?_drop] at hn; exact hn
              · cases hn
            have := hb5 j r h1 (f + n) v hr'
            simp only [World.cell?, hb3, Option.isSome_none, Bool.false_eq_true, if_false]
            rw [← this]; congr 1; omega
        | false =>
          rw [hag, cond_false] at h
          rw [rowK_def] at h
          obtain ⟨r, v, h1, h2, h3⟩ := h
          refine ⟨_, SV.lt_c _, h3, fun w hw => ?_⟩
          obtain ⟨R, φ, hw⟩ := hw
          obtain ⟨hr, hcap, hent⟩ := hw.ent _ he
          have hjl : j < xs.length := (List.getElem?_eq_some_iff.1 h1).1
          rcases hent with ⟨hb, hc0, _⟩ | ⟨b, off, c, hb1, hb2, hb3, hb4, hb5⟩
          · exfalso; omega
          · simp only at hb1
            simp only [SV.rf, map_add_some hb1, Instr.loadAt, Instr.sureAddr, Sem.run_bind, Sem.run_pure, Result.andThen_ok]
            refine run_loadVar_one hti hag ?_
            have := hb5 j r h1 f v h2
            simp only [World.cell?, hb3, Option.isSome_none, Bool.false_eq_true, if_false]
            rw [← this]; congr 1; omega
    | ext o => exact h.elim
  | c pv =>
    match pv, h with
    | .pointer (some a), h =>
    dsimp only at h
    cases hag : ti.agg with
    | true =>
      rw [hag, cond_true] at h
      rw [roAggK_def] at h
      obtain ⟨l, h1, h2, h3⟩ := h
      refine ⟨_, SV.lt_agg.2 (lts_cs _ _), h3, fun w hw => ?_⟩
      obtain ⟨R, φ, hw⟩ := hw
      simp only [SV.rf, Instr.loadAt, Instr.sureAddr, Sem.run_bind, Sem.run_pure, Result.andThen_ok, rfs_cs]
      exact run_loadVar_agg hti hag h1 (h2 R w hw.asn)
    | false =>
      rw [hag, cond_false] at h
      rw [roK_def] at h
      obtain ⟨v, h1, h2⟩ := h
      refine ⟨_, SV.lt_c _, h2, fun w hw => ?_⟩
      obtain ⟨R, φ, hw⟩ := hw
      simp only [SV.rf, Instr.loadAt, Instr.sureAddr, Sem.run_bind, Sem.run_pure, Result.andThen_ok]
      exact run_loadVar_one hti hag (h1 R w hw.asn)
  | _ => exact h.elim

end Go.SX
