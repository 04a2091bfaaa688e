import Derived.Test.YtajbngkcgbehlaaSxF
namespace Go.SX
open Go.RowKit

structure ltK (j n : Nat) (K : Prop) : Prop where
  out : j < n ∧ K
theorem ltK_def {j n : Nat} {K : Prop} : ltK j n K = (j < n ∧ K) := propext ⟨fun h => h.out, fun h => ⟨h⟩⟩

section
variable {cx : Cx} (hok : ∀ p ∈ cx.tab, mkTI cx.P p.1 = some p.2)

def idxQ (cx : Cx) (t : TypeId) (x iv : SV) (H : Heap) (K : SV → Prop) : Prop :=
  tabK t (fun ti => bif Nat.beq ti.kind 1 then tabK ti.elem (fun te =>
    match iv with
    | .c (.int _ z) =>
      (match x with
       | .c (.slice base len _) => idxK base len te.size z K
       | .os i len => findK i (fun e => match e with
         | .rows xs k _ => bif Nat.beq k te.size then idxRowK i len xs.length k z K else False
         | .box _ _ => (match z with | .ofNat n => bif Nat.ble len n then False else K (.lp i 0 0 (n * te.size)) | _ => False)
         | _ => False) H
       | _ => False)
    | _ => False) cx.tab else False) cx.tab

include hok in
theorem idxQ_sound {t : TypeId} {x iv : SV} {ρ : Nat → Loc} {nx : Nat} {H : Heap} {S : Asn} {K : SV → Prop} (h : idxQ cx t x iv H K) (hx : x.lt nx) :
    ∃ v, v.lt nx ∧ K v ∧ ∀ w, Abs cx.B ρ nx H S w → (Instr.indexAt t (x.rf ρ) (iv.rf ρ)).run cx.P w = .ok (v.rf ρ) w := by
  unfold idxQ at h
  obtain ⟨ti, hti, h⟩ := tabK_spec hok h
  cases hk : Nat.beq ti.kind 1 with
  | false => rw [hk] at h; exact h.elim
  | true =>
    rw [hk, cond_true] at h
    obtain ⟨i, d, z, hi0, hd, hz0, rfl⟩ := mkTI_spec hti
    have hk' := Nat.eq_of_beq_eq_true hk
    cases d <;> simp [kindOf] at hk'
    rename_i e
    obtain ⟨te, hte, h⟩ := tabK_spec hok h
    obtain ⟨ie, de, ze, hie, hde, hze, rfl⟩ := mkTI_spec hte
    simp only [elemOf'] at hie
    match iv, h with
    | .c (.int ik z), h =>
      cases x with
      | c pv =>
        match pv, h with
        | .slice base len cap, h =>
          dsimp only at h
          rw [idxK_def] at h
          obtain ⟨a, rfl, h0, h1, hK⟩ := h
          refine ⟨_, SV.lt_c _, hK, fun w _ => ?_⟩
          simp [SV.rf, Instr.indexAt, asIntOf, run_underlying hd, h0, h1, run_sizeOf_of hie]
      | os i len =>
        dsimp only at h
        obtain ⟨en, hen, h⟩ := findK_spec h
        cases en with
        | rows xs k T =>
          dsimp only at h
          cases hkk : Nat.beq k ie.size with
          | false => rw [hkk] at h; exact h.elim
          | true =>
            rw [hkk, cond_true] at h
            have hks := Nat.eq_of_beq_eq_true hkk
            rw [idxRowK_def] at h
            obtain ⟨j, rfl, hj, hl, hK⟩ := h
            refine ⟨_, SV.lt_lp (by have := hx i (by simp [SV.has]); exact this), hK, fun w hw => ?_⟩
            obtain ⟨R, φ, hw⟩ := hw
            obtain ⟨_, hcap, hent⟩ := hw.ent _ hen
            simp only at hcap hent
            rcases hent with ⟨hb, hc0, _⟩ | ⟨b, off, c, hb1, hb2, hb3, hb4, hb5⟩
            · exfalso; omega
            · have hji : (0 : Int) ≤ (j : Int) ∧ (j : Int) < (len : Int) := by omega
              simp [SV.rf, hb1, Instr.indexAt, asIntOf, run_underlying hd, hj, run_sizeOf_of hie, ← hks]
        | box l T =>
          dsimp only at h
          match z, h with
          | .ofNat n, g =>
            dsimp only at g
            cases hb : Nat.ble len n with
            | true => rw [hb] at g; exact g.elim
            | false =>
              rw [hb, cond_false] at g
              have hn : n < len := by
                rcases Nat.lt_or_ge n len with h' | h'
                · exact h'
                · rw [Nat.ble_eq_true_of_le h'] at hb; cases hb
              refine ⟨_, SV.lt_lp (by have := hx i (by simp [SV.has]); exact this), g, fun w hw => ?_⟩
              obtain ⟨R, φ, hw⟩ := hw
              obtain ⟨b, hb1, hb2, hb3⟩ := hw.ent _ hen
              simp only at hb1
              simp [SV.rf, hb1, Instr.indexAt, asIntOf, run_underlying hd, hn, run_sizeOf_of hie]
        | _ => exact h.elim
      | _ => exact h.elim

def unQ (op : UnOp) (x : SV) (K : SV → Prop) : Prop :=
  match op, x with
  | .not, .c (.bool true) => K (.c (.bool false))
  | .not, .c (.bool false) => K (.c (.bool true))
  | .neg, .c (.int k n) => wrapK k (0 - n) fun z => K (.c (.int k z))
  | _, _ => False
theorem unQ_sound {P : Program} {op : UnOp} {x : SV} {K : SV → Prop} {ρ : Nat → Loc} (h : unQ op x K) : ∃ v, K (.c v) ∧ ∀ w, (Op.unary op (x.rf ρ)).run P w = .ok v w := by
  unfold unQ at h
  split at h
  · exact ⟨_, h, fun w => by simp [SV.rf, Op.unary]⟩
  · exact ⟨_, h, fun w => by simp [SV.rf, Op.unary]⟩
  · rw [wrapK_def] at h; exact ⟨_, h, fun w => by simp [SV.rf, Op.unary, Op.intArith]⟩
  · exact h.elim

def convQ (cx : Cx) (s d : TypeId) (x : SV) (K : SV → Prop) : Prop :=
  tabK s (fun _ => tabK d (fun ti => match x with
    | .c (.int _ n) => bif Nat.beq ti.kind 6 then wrapK ti.ik n (fun z => K (.c (.int ti.ik z))) else False
    | _ => False) cx.tab) cx.tab
include hok in
theorem convQ_sound {s d : TypeId} {x : SV} {K : SV → Prop} {ρ : Nat → Loc} (h : convQ cx s d x K) : ∃ v, K (.c v) ∧ ∀ w, (convert s d (x.rf ρ)).run cx.P w = .ok v w := by
  unfold convQ at h
  obtain ⟨t1, ht1, h⟩ := tabK_spec hok h
  obtain ⟨t2, ht2, h⟩ := tabK_spec hok h
  obtain ⟨i1, d1, z1, hi1, hd1, hz1, rfl⟩ := mkTI_spec ht1
  obtain ⟨i2, d2, z2, hi2, hd2, hz2, rfl⟩ := mkTI_spec ht2
  match x, h with
  | .c (.int k n), h =>
    dsimp only at h
    cases hk : Nat.beq (kindOf d2) 6 with
    | false => rw [hk] at h; exact h.elim
    | true =>
      rw [hk, cond_true] at h
      have hk' := Nat.eq_of_beq_eq_true hk
      cases d2 <;> simp [kindOf] at hk'
      rw [wrapK_def] at h
      refine ⟨_, h, fun w => ?_⟩
      simp [SV.rf, convert, run_underlying hd1, run_underlying hd2, Conv.intToInt, ikOf]

def extrQ (x : SV) (i : Nat) (K : SV → Prop) : Prop :=
  match x with
  | .tup l => nthK K l i
  | .c (.tuple a) => nthK K (cs a.toList) i
  | _ => False
theorem extrQ_sound {P : Program} {x : SV} {i : Nat} {K : SV → Prop} {ρ : Nat → Loc} {nx : Nat} (hx : x.lt nx) (h : extrQ x i K) : ∃ v, v.lt nx ∧ K v ∧ ∀ w, (Instr.extract (x.rf ρ) i).run P w = .ok (v.rf ρ) w := by
  match x, h with
  | .tup l, h =>
    obtain ⟨v, h1, h2⟩ := nthK_spec h
    exact ⟨v, SV.lts_iff.1 (SV.lt_tup.1 hx) v (List.mem_of_getElem? h1), h2, fun w => by simp [SV.rf, Instr.extract, SV.rfs_eq, h1]⟩
  | .c (.tuple a), h =>
    obtain ⟨v, h1, h2⟩ := nthK_spec h
    refine ⟨v, SV.lts_iff.1 (lts_cs nx a.toList) v (List.mem_of_getElem? h1), h2, fun w => ?_⟩
    have h3 : a[i]? = some (v.rf ρ) := by
      have := rfs_cs ρ a.toList
      rw [SV.rfs_eq] at this
      rw [← Array.getElem?_toList, ← this]
      simp [h1]
    simp [SV.rf, Instr.extract, h3]

def ifaceQ (cx : Cx) (t : TypeId) (x : SV) (K : SV → Prop) : Prop := tabK t (fun ti => bif Nat.beq ti.kind 9 then False else K (.ifc t x)) cx.tab
include hok in
theorem ifaceQ_sound {t : TypeId} {x : SV} {K : SV → Prop} (h : ifaceQ cx t x K) : K (.ifc t x) ∧ ∀ ρ w, (Instr.makeInterface t (x.rf ρ)).run cx.P w = .ok ((SV.ifc t x).rf ρ) w := by
  unfold ifaceQ at h
  obtain ⟨ti, hti, h⟩ := tabK_spec hok h
  obtain ⟨i, d, z, hi, hd, hz, rfl⟩ := mkTI_spec hti
  cases hk : Nat.beq (kindOf d) 9 with
  | true => rw [hk] at h; exact h.elim
  | false =>
    rw [hk, cond_false] at h
    refine ⟨h, fun ρ w => ?_⟩
    have : ∀ ms, d ≠ .interface ms := by rintro ms rfl; simp [kindOf] at hk
    unfold Instr.makeInterface
    simp only [Sem.run_bind, run_underlying hd, Result.andThen_ok]
    cases d <;> first | (exact absurd rfl (this _)) | simp [SV.rf]

def nilQ (x : SV) (H : Heap) (K : SV → Prop) : Prop :=
  match x with
  | .c (.pointer (some a)) => K (.c (.pointer (some a)))
  | .lp i j k f => findK i (fun e => match e with | .box _ _ => K (.lp i j k f) | .rows xs _ _ => ltK j xs.length (K (.lp i j k f)) | _ => False) H
  | .fn (.func f) a b => K (.fn (.func f) a b)
  | .c (.func (.func f) a b) => K (.c (.func (.func f) a b))
  | .ifc t v => K (.ifc t v)
  | _ => False

def lenQ (cx : Cx) (t : TypeId) (x : SV) (K : SV → Prop) : Prop :=
  tabK t (fun ti => match x with
    | .c (.slice _ n _) => bif Nat.beq ti.kind 1 then K (.c (.int .i64 n)) else False
    | .os _ n => bif Nat.beq ti.kind 1 then K (.c (.int .i64 n)) else False
    | .c (.string s) => bif Nat.beq ti.kind 4 then K (.c (.int .i64 s.size)) else False
    | _ => False) cx.tab
include hok in
theorem lenQ_sound {t ty : TypeId} {x : SV} {K : SV → Prop} {ρ : Nat → Loc} {ts : Array TypeId} {args : Array Value} (ht : ts[0]? = some t) (ha : args[0]? = some (x.rf ρ)) (h : lenQ cx t x K) :
    ∃ v, K (.c v) ∧ ∀ w, (Builtin.len_ ts ty args).run cx.P w = .ok v w := by
  unfold lenQ at h
  obtain ⟨ti, hti, h⟩ := tabK_spec hok h
  obtain ⟨i, d, z, hi, hd, hz, rfl⟩ := mkTI_spec hti
  match x, h, ha with
  | .c (.slice a n c), h1, ha1 =>
    dsimp only at h1
    clear h ha
    cases hk : Nat.beq (kindOf d) 1 with
    | false => rw [hk] at h1; exact h1.elim
    | true =>
      rw [hk, cond_true] at h1
      have hk' := Nat.eq_of_beq_eq_true hk
      cases d <;> simp [kindOf] at hk'
      exact ⟨_, h1, fun w => by simp [Builtin.len_, ht, ha1, SV.rf, run_underlying hd, goInt]⟩
  | .os i n, h1, ha1 =>
    dsimp only at h1
    clear h ha
    cases hk : Nat.beq (kindOf d) 1 with
    | false => rw [hk] at h1; exact h1.elim
    | true =>
      rw [hk, cond_true] at h1
      have hk' := Nat.eq_of_beq_eq_true hk
      cases d <;> simp [kindOf] at hk'
      exact ⟨_, h1, fun w => by simp [Builtin.len_, ht, ha1, SV.rf, run_underlying hd, goInt]⟩
  | .c (.string s), h1, ha1 =>
    dsimp only at h1
    clear h ha
    cases hk : Nat.beq (kindOf d) 4 with
    | false => rw [hk] at h1; exact h1.elim
    | true =>
      rw [hk, cond_true] at h1
      have hk' := Nat.eq_of_beq_eq_true hk
      cases d <;> simp [kindOf] at hk'
      exact ⟨_, h1, fun w => by simp [Builtin.len_, ht, ha1, SV.rf, run_underlying hd, goInt]⟩

/-- min, max of integers -/
def mmK (mx : Bool) (k : IntKind) (K : SV → Prop) : Int → List SV → Prop
  | x, [] => K (.c (.int k x))
  | x, .c (.int _ y) :: r => (match mx with
    | true => cmpK (y > x) fun b => match b with | true => mmK mx k K y r | false => mmK mx k K x r
    | false => cmpK (y < x) fun b => match b with | true => mmK mx k K y r | false => mmK mx k K x r)
  | _, _ => False
theorem max_sound {P : Program} {k : IntKind} {K : SV → Prop} {ρ : Nat → Loc} : ∀ {r : List SV} {x : Int}, mmK true k K x r → ∃ v, K (.c v) ∧ ∀ w, ((SV.rfs ρ r).foldlM Builtin.max2 (.int k x)).run P w = .ok v w
  | [], x, h => ⟨_, h, fun w => by simp [SV.rfs]⟩
  | .c (.int k' y) :: r, x, h => by
    unfold mmK at h
    have h := cmp_sound h
    by_cases hy : y > x
    · rw [decide_eq_true hy] at h
      obtain ⟨v, h1, h2⟩ := max_sound (ρ := ρ) (P := P) h
      exact ⟨v, h1, fun w => by simp only [SV.rfs, SV.rf, List.foldlM_cons, Sem.run_bind, Builtin.max2, Sem.run_pure, Result.andThen_ok, if_pos hy, h2]⟩
    · rw [decide_eq_false hy] at h
      obtain ⟨v, h1, h2⟩ := max_sound (ρ := ρ) (P := P) h
      exact ⟨v, h1, fun w => by simp only [SV.rfs, SV.rf, List.foldlM_cons, Sem.run_bind, Builtin.max2, Sem.run_pure, Result.andThen_ok, if_neg hy, h2]⟩
theorem min_sound {P : Program} {k : IntKind} {K : SV → Prop} {ρ : Nat → Loc} : ∀ {r : List SV} {x : Int}, mmK false k K x r → ∃ v, K (.c v) ∧ ∀ w, ((SV.rfs ρ r).foldlM Builtin.min2 (.int k x)).run P w = .ok v w
  | [], x, h => ⟨_, h, fun w => by simp [SV.rfs]⟩
  | .c (.int k' y) :: r, x, h => by
    unfold mmK at h
    have h := cmp_sound h
    by_cases hy : y < x
    · rw [decide_eq_true hy] at h
      obtain ⟨v, h1, h2⟩ := min_sound (ρ := ρ) (P := P) h
      exact ⟨v, h1, fun w => by simp only [SV.rfs, SV.rf, List.foldlM_cons, Sem.run_bind, Builtin.min2, Sem.run_pure, Result.andThen_ok, if_pos hy, h2]⟩
    · rw [decide_eq_false hy] at h
      obtain ⟨v, h1, h2⟩ := min_sound (ρ := ρ) (P := P) h
      exact ⟨v, h1, fun w => by simp only [SV.rfs, SV.rf, List.foldlM_cons, Sem.run_bind, Builtin.min2, Sem.run_pure, Result.andThen_ok, if_neg hy, h2]⟩

def builtinQ (cx : Cx) (b : Builtin) (ts : List TypeId) (args : List SV) (K : SV → Prop) : Prop :=
  match b, ts, args with
  | .len, t :: _, x :: _ => lenQ cx t x K
  | .max, _, .c (.int k x) :: r => mmK true k K x r
  | .min, _, .c (.int k x) :: r => mmK false k K x r
  | _, _, _ => False
end
end Go.SX
