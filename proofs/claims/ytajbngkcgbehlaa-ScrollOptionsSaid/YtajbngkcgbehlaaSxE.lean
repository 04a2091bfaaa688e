import Derived.Test.YtajbngkcgbehlaaSxD
namespace Go.SX
open Go.RowKit

section
variable {cx : Cx} (hok : ∀ p ∈ cx.tab, mkTI cx.P p.1 = some p.2)

def fldK (K : Nat × Nat × Nat → Prop) : List (Nat × Nat × Nat) → Nat → Prop
  | [], _ => False
  | v :: r, n => bif Nat.beq n 0 then K v else fldK K r (Nat.pred n)
theorem fldK_spec {K : Nat × Nat × Nat → Prop} : ∀ {l : List (Nat × Nat × Nat)} {n : Nat}, fldK K l n → ∃ v, l[n]? = some v ∧ K v
  | [], _, h => h.elim
  | v :: r, n, h => by
    unfold fldK at h
    cases n with
    | zero => exact ⟨v, rfl, h⟩
    | succ n => obtain ⟨u, h1, h2⟩ := fldK_spec (l := r) (n := n) h; exact ⟨u, by simpa using h1, h2⟩

/-- fieldAddr -/
def fieldAddrQ (cx : Cx) (t : TypeId) (p : SV) (f : Nat) (K : SV → Prop) : Prop :=
  tabK t (fun ti => fldK (fun x => bif Nat.beq x.2.1 0 then False else
    match p with
    | .lp i j k g => K (.lp i j k (g + x.1))
    | .c (.pointer (some a)) => K (.c (.pointer (some (a.add x.1))))
    | _ => False) ti.flds f) cx.tab

theorem add_add (a : Addr) (m n : Nat) : (a.add m).add n = a.add (m + n) := by
  unfold Addr.add
  by_cases hm : m = 0
  · subst hm; simp
  · by_cases hn : n = 0
    · subst hn; simp
    · simp [hm, hn, Nat.add_assoc]

theorem flds_spec {P : Program} {t : TypeId} {ti : TI} (h : mkTI P t = some ti) {f : Nat} {x : Nat × Nat × Nat} (hf : ti.flds[f]? = some x) :
    ∃ (fs : Array Field) (g : Field), P.underlying t = some (.struct fs) ∧ fs[f]? = some g ∧ g.offset = x.1 ∧
      x.2.1 = ((P.info? g.type).map (·.size)).getD 0 ∧ x.2.2 = aggCode (P.underlying g.type) := by
  obtain ⟨i, d, z, hi, hd, hz0, rfl⟩ := mkTI_spec h
  simp only at hf
  unfold fldsOf at hf
  split at hf
  · rename_i fs
    simp only [List.getElem?_map, Option.map_eq_some_iff] at hf
    obtain ⟨g, hg, rfl⟩ := hf
    exact ⟨fs, g, hd, by simpa using hg, rfl, rfl, rfl⟩
  · simp at hf

include hok in
theorem fieldAddrQ_sound {t : TypeId} {p : SV} {f : Nat} {K : SV → Prop} {ρ : Nat → Loc} {nx : Nat} (hp : p.lt nx) (h : fieldAddrQ cx t p f K)
    (hb : ∀ i j k g, p = .lp i j k g → (ρ i).base.isSome = true) : ∃ v, v.lt nx ∧ K v ∧ ∀ w, (Instr.fieldAt t (p.rf ρ) f).run cx.P w = .ok (v.rf ρ) w := by
  unfold fieldAddrQ at h
  obtain ⟨ti, hti, h⟩ := tabK_spec hok h
  obtain ⟨x, hx, h⟩ := fldK_spec h
  obtain ⟨fs, g, hd, hg, ho, hs, _⟩ := flds_spec hti hx
  cases hz : Nat.beq x.2.1 0 with
  | true => rw [hz] at h; exact h.elim
  | false =>
    rw [hz, cond_false] at h
    have hnz : x.2.1 ≠ 0 := Nat.ne_of_beq_eq_false hz
    have hplace : ∀ (a : Addr) (w : World), (fieldPlace a g).run cx.P w = .ok (a.add x.1) w := by
      intro a w
      cases hq : cx.P.info? g.type with
      | none => simp [hs, hq] at hnz
      | some gi =>
        have : gi.size ≠ 0 := by simpa [hs, hq] using hnz
        simp [fieldPlace, run_sizeOf_of hq, this, ho]
    cases p with
    | lp i j k g' =>
      refine ⟨_, ?_, h, fun w => ?_⟩
      · intro y hy; exact hp y hy
      · have hbs := hb i j k g' rfl
        obtain ⟨a, ha⟩ := Option.isSome_iff_exists.1 hbs
        simp [SV.rf, ha, Instr.fieldAt, run_underlying hd, hg, Instr.sureAddr, hplace, add_add, Nat.add_assoc]
    | c pv =>
      match pv, h with
      | .pointer (some a), h =>
        exact ⟨_, SV.lt_c _, h, fun w => by simp [SV.rf, Instr.fieldAt, run_underlying hd, hg, Instr.sureAddr, hplace]⟩
    | _ => exact h.elim

/-- field of a value -/
def fieldQ (cx : Cx) (t : TypeId) (p : SV) (f : Nat) (K : SV → Prop) : Prop :=
  tabK t (fun ti => fldK (fun x =>
    match p with
    | .agg l => bif Nat.beq x.2.2 0 then nthK K l x.1 else bif Nat.beq x.2.2 1 then segK (fun r => K (.agg r)) l x.1 x.2.1 else False
    | _ => False) ti.flds f) cx.tab

include hok in
theorem fieldQ_sound {t : TypeId} {p : SV} {f : Nat} {K : SV → Prop} {ρ : Nat → Loc} {nx : Nat} (hp : p.lt nx) (h : fieldQ cx t p f K) :
    ∃ v, v.lt nx ∧ K v ∧ ∀ w, (Instr.field t (p.rf ρ) f).run cx.P w = .ok (v.rf ρ) w := by
  unfold fieldQ at h
  obtain ⟨ti, hti, h⟩ := tabK_spec hok h
  obtain ⟨x, hx, h⟩ := fldK_spec h
  obtain ⟨fs, g, hd, hg, ho, hs, ha⟩ := flds_spec hti hx
  cases p with
  | agg l =>
    dsimp only at h
    have hlt := SV.lts_iff.1 (SV.lt_agg.1 hp)
    cases hag0 : Nat.beq x.2.2 0 with
    | false =>
      rw [hag0, cond_false] at h
      cases hag : Nat.beq x.2.2 1 with
      | false => rw [hag] at h; exact h.elim
      | true =>
      rw [hag, cond_true] at h
      obtain ⟨r, hr1, hr2, hr3⟩ := segK_spec h
      refine ⟨_, SV.lt_agg.2 (SV.lts_iff.2 fun v hv => ?_), hr3, fun w => ?_⟩
      · obtain ⟨n, hn⟩ := List.getElem?_of_mem hv
        exact hlt v (List.mem_of_getElem? (hr2 n v hn))
      · have hag' : ∃ gd, cx.P.underlying g.type = some gd ∧ aggOf gd = true := by
          have h1 := Nat.eq_of_beq_eq_true hag
          cases hq : cx.P.underlying g.type with
          | none => rw [ha, hq] at h1; simp [aggCode] at h1
          | some gd =>
            rw [ha, hq] at h1
            cases hgd : aggOf gd with
            | true => exact ⟨gd, rfl, hgd⟩
            | false => simp [aggCode, hgd] at h1
        obtain ⟨gd, hgd, hga⟩ := hag'
        have hgi : ∃ gi, cx.P.info? g.type = some gi := by
          cases hq : cx.P.info? g.type with
          | none => simp [Program.underlying, hq] at hgd
          | some gi => exact ⟨gi, rfl⟩
        obtain ⟨gi, hgi⟩ := hgi
        have hsz : x.2.1 = gi.size := by simp [hs, hgi]
        simp only [SV.rf, Instr.field, Sem.run_bind, run_underlying hd, Result.andThen_ok, hg, asAgg, Sem.run_pure, part, run_isAgg_of hgd, hga, if_true, run_sizeOf_of hgi, ho]
        simp only [SV.rfs_eq, Result.ok.injEq, Value.agg.injEq, and_true]
        rw [← hsz]
        apply Array.ext'
        simp only [Array.toList_extract, List.extract_eq_take_drop]
        apply List.ext_getElem?
        intro n
        simp only [Nat.add_sub_cancel_left, List.getElem?_take, List.getElem?_drop, List.getElem?_map]
        split
        · rename_i hn
          have hnr : n < r.length := by rw [hr1]; exact hn
          have := hr2 n r[n] (List.getElem?_eq_getElem hnr)
          rw [this, List.getElem?_eq_getElem hnr]
        · rename_i hn
          rw [List.getElem?_eq_none (by omega)]; rfl
    | true =>
      rw [hag0, cond_true] at h
      obtain ⟨v, hv1, hv2⟩ := nthK_spec h
      refine ⟨v, hlt v (List.mem_of_getElem? hv1), hv2, fun w => ?_⟩
      have hag' : ∃ gd, cx.P.underlying g.type = some gd ∧ aggOf gd = false := by
        have h1 := Nat.eq_of_beq_eq_true hag0
        cases hq : cx.P.underlying g.type with
        | none => rw [ha, hq] at h1; simp [aggCode] at h1
        | some gd =>
          rw [ha, hq] at h1
          cases hgd : aggOf gd with
          | true => simp [aggCode, hgd] at h1
          | false => exact ⟨gd, rfl, hgd⟩
      obtain ⟨gd, hgd, hga⟩ := hag'
      simp only [SV.rf, Instr.field, Sem.run_bind, run_underlying hd, Result.andThen_ok, hg, asAgg, Sem.run_pure, part, run_isAgg_of hgd, hga, ho]
      simp [SV.rfs_eq, hv1]
  | _ => exact h.elim
end
end Go.SX
