import Derived.Test.YtajbngkcgbehlaaSxE
namespace Go.SX
open Go.RowKit

def putK (K : List SV → Prop) : List SV → Nat → SV → Prop
  | [], _, _ => False
  | u :: r, n, v => bif Nat.beq n 0 then K (v :: r) else putK (fun r' => K (u :: r')) r (Nat.pred n) v
theorem putK_spec : ∀ {l : List SV} {n : Nat} {v : SV} {K : List SV → Prop}, putK K l n v → n < l.length ∧ K (l.set n v)
  | [], _, _, _, h => h.elim
  | u :: r, n, v, K, h => by
    unfold putK at h
    cases n with
    | zero => exact ⟨by simp, h⟩
    | succ n => obtain ⟨h1, h2⟩ := putK_spec (l := r) (n := n) h; exact ⟨by simpa using h1, h2⟩

def setFrom {α : Type} (l : List α) (off : Nat) : List α → List α
  | [] => l
  | v :: r => setFrom (l.set off v) (off + 1) r
def putsK (K : List SV → Prop) : List SV → Nat → List SV → Prop
  | l, _, [] => K l
  | l, off, v :: r => putK (fun l' => putsK K l' (off + 1) r) l off v
theorem putsK_spec : ∀ {vs l : List SV} {off : Nat} {K : List SV → Prop}, putsK K l off vs → (vs = [] ∨ off + vs.length ≤ l.length) ∧ K (setFrom l off vs)
  | [], _, _, _, h => ⟨.inl rfl, h⟩
  | v :: r, l, off, K, h => by
    unfold putsK at h
    obtain ⟨h1, h2⟩ := putK_spec h
    obtain ⟨h3, h4⟩ := putsK_spec h2
    refine ⟨.inr ?_, h4⟩
    rcases h3 with rfl | h3
    · simp; omega
    · simp at h3 ⊢; omega
theorem setFrom_length {α : Type} : ∀ (vs l : List α) (off : Nat), (setFrom l off vs).length = l.length
  | [], _, _ => rfl
  | v :: r, l, off => by simp [setFrom, setFrom_length r]
theorem setFrom_map {α β : Type} (g : α → β) : ∀ (vs l : List α) (off : Nat), (setFrom l off vs).map g = setFrom (l.map g) off (vs.map g)
  | [], _, _ => rfl
  | v :: r, l, off => by simp [setFrom, setFrom_map g r, List.map_set]
theorem mem_setFrom {α : Type} : ∀ {vs l : List α} {off : Nat} {x : α}, x ∈ setFrom l off vs → x ∈ l ∨ x ∈ vs
  | [], _, _, _, h => .inl h
  | v :: r, l, off, x, h => by
    rcases mem_setFrom (vs := r) h with h | h
    · rcases List.mem_or_eq_of_mem_set h with h | h
      · exact .inl h
      · exact .inr (by simp [h])
    · exact .inr (by simp [h])

def cellsK (K : List SV → Prop) : SV → Prop
  | .agg l => K l
  | .c (.agg a) => K (cs a.toList)
  | .c (.bool b) => K [.c (.bool b)]
  | .c (.int k n) => K [.c (.int k n)]
  | .c (.string s) => K [.c (.string s)]
  | .c (.pointer a) => K [.c (.pointer a)]
  | .c (.slice a l n) => K [.c (.slice a l n)]
  | .c (.map r) => K [.c (.map r)]
  | .c (.func f a b) => K [.c (.func f a b)]
  | .c .nilFunc => K [.c .nilFunc]
  | .c (.iface t v) => K [.c (.iface t v)]
  | .c .nilIface => K [.c .nilIface]
  | .lp i j k f => K [.lp i j k f]
  | .os i l => K [.os i l]
  | .fn f a b => K [.fn f a b]
  | .ifc t v => K [.ifc t v]
  | _ => False
theorem cellsK_spec {K : List SV → Prop} {v : SV} {nx : Nat} (hv : v.lt nx) (h : cellsK K v) : ∃ l, K l ∧ SV.lts nx l ∧ ∀ ρ, (v.rf ρ).cells = (SV.rfs ρ l).toArray := by
  have one : ∀ u : SV, u.lt nx → SV.lts nx [u] := fun u hu => SV.lts_iff.2 (by simpa using hu)
  cases v with
  | agg l => exact ⟨l, h, SV.lt_agg.1 hv, fun ρ => rfl⟩
  | c u =>
    match u, h with
    | .agg a, h => exact ⟨_, h, lts_cs _ _, fun ρ => by rw [rfs_cs]; rfl⟩
    | .bool b, h | .int k n, h | .string s, h | .pointer a, h | .slice a l n, h | .map r, h | .func f a b, h | .nilFunc, h | .iface t v, h | .nilIface, h => exact ⟨_, h, one _ (SV.lt_c _), fun ρ => rfl⟩
  | tup l => exact h.elim
  | lp i j k f => exact ⟨_, h, one _ hv, fun ρ => rfl⟩
  | os i l => exact ⟨_, h, one _ hv, fun ρ => rfl⟩
  | fn f a b => exact ⟨_, h, one _ hv, fun ρ => rfl⟩
  | ifc t v => exact ⟨_, h, one _ hv, fun ρ => rfl⟩

/-- the parts of a struct, laid in -/
def fillK (K : List SV → Prop) (flds : List (Nat × Nat × Nat)) : List SV → List (Nat × SV) → Prop
  | l, [] => K l
  | l, (i, v) :: r => fldK (fun x => cellsK (fun vs => bif Nat.beq vs.length x.2.1 then (bif Nat.beq vs.length 0 then False else putsK (fun l' => fillK K flds l' r) l x.1 vs) else False) v) flds i
/-- the parts of a row of equal ones -/
def fillRowK (K : List SV → Prop) (size : Nat) : List SV → List (Nat × SV) → Prop
  | l, [] => K l
  | l, (i, v) :: r => cellsK (fun vs => bif Nat.beq vs.length size then (bif Nat.beq vs.length 0 then False else putsK (fun l' => fillRowK K size l' r) l (i * size) vs) else False) v

theorem foldl_setFrom : ∀ (vs : List Value) (cells : Array Value) (off j : Nat),
    (vs.zipIdx j).foldl (fun cs (x : Value × Nat) => cs.setIfInBounds (off + x.2) x.1) cells = (setFrom cells.toList (off + j) vs).toArray
  | [], cells, off, j => by simp [setFrom]
  | v :: r, cells, off, j => by
    simp only [List.zipIdx_cons, List.foldl_cons]
    rw [foldl_setFrom r _ off (j + 1)]
    simp [setFrom, Array.toList_setIfInBounds, Nat.add_assoc]

theorem fill_step {place : Nat → Option (Nat × Nat)} {cells : Array Value} {i : Nat} {v : Value} {rest : List (Nat × Value)} {off size : Nat} (hp : place i = some (off, size))
    (hs : v.cells.size = size) (hf : off + v.cells.size ≤ cells.size) : Instr.fill place cells ((i, v) :: rest) = Instr.fill place (setFrom cells.toList off v.cells.toList).toArray rest := by
  simp only [Instr.fill, hp]
  have : (decide (v.cells.size ≠ size) || decide (off + v.cells.size > cells.size)) = false := by simp [hs]; omega
  rw [if_neg (by simp [hs]; omega)]
  congr 1
  have := foldl_setFrom v.cells.toList cells off 0
  rw [Nat.add_zero] at this
  rw [← this]
  rw [← Array.foldl_toList]
  simp

theorem rfs_setFrom (ρ : Nat → Loc) (vs l : List SV) (off : Nat) : SV.rfs ρ (setFrom l off vs) = setFrom (SV.rfs ρ l) off (SV.rfs ρ vs) := by
  simp only [SV.rfs_eq, setFrom_map]
theorem rfs_length (ρ : Nat → Loc) (l : List SV) : (SV.rfs ρ l).length = l.length := by simp [SV.rfs_eq]
theorem lts_setFrom {nx : Nat} {vs l : List SV} {off : Nat} (h1 : SV.lts nx l) (h2 : SV.lts nx vs) : SV.lts nx (setFrom l off vs) :=
  SV.lts_iff.2 fun x hx => (mem_setFrom hx).elim (SV.lts_iff.1 h1 x) (SV.lts_iff.1 h2 x)

theorem fillK_spec {flds : List (Nat × Nat × Nat)} {place : Nat → Option (Nat × Nat)} (hpl : ∀ i x, flds[i]? = some x → place i = some (x.1, x.2.1)) {nx : Nat} :
    ∀ {ps : List (Nat × SV)} {l : List SV} {K : List SV → Prop}, SV.lts nx l → (∀ p ∈ ps, p.2.lt nx) → fillK K flds l ps →
    ∃ l', K l' ∧ SV.lts nx l' ∧ ∀ ρ, Instr.fill place (SV.rfs ρ l).toArray (ps.map fun p => (p.1, p.2.rf ρ)) = some (SV.rfs ρ l').toArray
  | [], l, K, hl, _, h => ⟨l, h, hl, fun ρ => rfl⟩
  | (i, v) :: r, l, K, hl, hp, h => by
    unfold fillK at h
    obtain ⟨x, hx, h⟩ := fldK_spec h
    obtain ⟨vs, h, hvs, hc⟩ := cellsK_spec (hp (i, v) (by simp)) h
    cases hb : Nat.beq vs.length x.2.1 with
    | false => rw [hb] at h; exact h.elim
    | true =>
      rw [hb, cond_true] at h
      have hlen := Nat.eq_of_beq_eq_true hb
      cases hb0 : Nat.beq vs.length 0 with
      | true => rw [hb0] at h; exact h.elim
      | false =>
      rw [hb0, cond_false] at h
      have hlen0 := Nat.ne_of_beq_eq_false hb0
      obtain ⟨h1, h2⟩ := putsK_spec h
      obtain ⟨l', h3, h4, h5⟩ := fillK_spec hpl (ps := r) (lts_setFrom hl hvs) (fun p hp' => hp p (by simp [hp'])) h2
      have h1' := h1.resolve_left (by rintro rfl; simp at hlen0)
      refine ⟨l', h3, h4, fun ρ => ?_⟩
      rw [List.map_cons, fill_step (hpl i x hx) (by rw [hc ρ]; simp [rfs_length, hlen]) (by rw [hc ρ]; simp [rfs_length]; exact h1')]
      have h5 := h5 ρ
      rw [rfs_setFrom] at h5
      rw [hc ρ]
      simpa using h5

theorem fillRowK_spec {size : Nat} {nx : Nat} :
    ∀ {ps : List (Nat × SV)} {l : List SV} {K : List SV → Prop}, SV.lts nx l → (∀ p ∈ ps, p.2.lt nx) → fillRowK K size l ps →
    ∃ l', K l' ∧ SV.lts nx l' ∧ ∀ ρ, Instr.fill (fun i => some (i * size, size)) (SV.rfs ρ l).toArray (ps.map fun p => (p.1, p.2.rf ρ)) = some (SV.rfs ρ l').toArray
  | [], l, K, hl, _, h => ⟨l, h, hl, fun ρ => rfl⟩
  | (i, v) :: r, l, K, hl, hp, h => by
    unfold fillRowK at h
    obtain ⟨vs, h, hvs, hc⟩ := cellsK_spec (hp (i, v) (by simp)) h
    cases hb : Nat.beq vs.length size with
    | false => rw [hb] at h; exact h.elim
    | true =>
      rw [hb, cond_true] at h
      have hlen := Nat.eq_of_beq_eq_true hb
      cases hb0 : Nat.beq vs.length 0 with
      | true => rw [hb0] at h; exact h.elim
      | false =>
      rw [hb0, cond_false] at h
      have hlen0 := Nat.ne_of_beq_eq_false hb0
      obtain ⟨h1, h2⟩ := putsK_spec h
      obtain ⟨l', h3, h4, h5⟩ := fillRowK_spec (ps := r) (lts_setFrom hl hvs) (fun p hp' => hp p (by simp [hp'])) h2
      have h1' := h1.resolve_left (by rintro rfl; simp at hlen0)
      refine ⟨l', h3, h4, fun ρ => ?_⟩
      rw [List.map_cons, fill_step (off := i * size) (size := size) rfl (by rw [hc ρ]; simp [rfs_length, hlen]) (by rw [hc ρ]; simp [rfs_length]; exact h1')]
      have h5 := h5 ρ
      rw [rfs_setFrom] at h5
      rw [hc ρ]
      simpa using h5

/-- operands with their places -/
def evpK (n : Nat) (env : Env) (K : List (Nat × SV) → Prop) : List (Nat × Operand) → Prop
  | [] => K []
  | (i, x) :: r => evK n env x fun v => evpK n env (fun l => K ((i, v) :: l)) r
theorem evpK_spec {n : Nat} {ρ : Nat → Loc} {nx : Nat} {env : Env} {a : Act} (hs : Sat n ρ nx env a) : ∀ {xs : List (Nat × Operand)} {K : List (Nat × SV) → Prop}, evpK n env K xs →
    ∃ l, K l ∧ (xs.map fun p => (p.1, a.eval p.2)) = (l.map fun p => (p.1, p.2.rf ρ)) ∧ ∀ p ∈ l, p.2.lt nx
  | [], K, h => ⟨[], h, rfl, by simp⟩
  | (i, x) :: r, K, h => by
    obtain ⟨v, h1, h2, h3⟩ := evK_spec hs h
    obtain ⟨l, h4, h5, h6⟩ := evpK_spec hs (xs := r) h1
    exact ⟨(i, v) :: l, h4, by simp [h2, h5], fun p hp => (List.mem_cons.1 hp).elim (fun e => e ▸ h3) (h6 p)⟩

section
variable {cx : Cx} (hok : ∀ p ∈ cx.tab, mkTI cx.P p.1 = some p.2)

def buildQ (cx : Cx) (t : TypeId) (ps : List (Nat × SV)) (K : SV → Prop) : Prop :=
  tabK t (fun ti => bif Nat.beq ti.kind 3 && ti.okf then fillK (fun l => K (.agg l)) ti.flds (cs ti.zero) ps else False) cx.tab

include hok in
theorem buildQ_sound {t : TypeId} {ps : List (Nat × SV)} {K : SV → Prop} {nx : Nat} (hp : ∀ p ∈ ps, p.2.lt nx) (h : buildQ cx t ps K) :
    ∃ v, v.lt nx ∧ K v ∧ ∀ ρ w, (Instr.build t (ps.map fun p => (p.1, p.2.rf ρ)).toArray).run cx.P w = .ok (v.rf ρ) w := by
  unfold buildQ at h
  obtain ⟨ti, hti, h⟩ := tabK_spec hok h
  cases hk : (Nat.beq ti.kind 3 && ti.okf) with
  | false => rw [hk] at h; exact h.elim
  | true =>
    rw [hk, cond_true] at h
    obtain ⟨i, d, z, hi, hd, hz0, rfl⟩ := mkTI_spec hti
    simp only [Bool.and_eq_true] at hk
    obtain ⟨hk1, hk2⟩ := hk
    have hk' := Nat.eq_of_beq_eq_true hk1
    cases d <;> simp [kindOf] at hk'
    rename_i fs
    simp only at h
    have hm : ∀ l : List Field, (l.all fun f => (cx.P.info? f.type).isSome) = true →
        l.mapM (fun f => (cx.P.info? f.type).map fun i => (f.offset, i.size)) = some (l.map fun f => (f.offset, ((cx.P.info? f.type).map (·.size)).getD 0)) := by
      intro l
      induction l with
      | nil => intro _; rfl
      | cons f r ih =>
        intro hl
        simp only [List.all_cons, Bool.and_eq_true] at hl
        obtain ⟨fi, hfi⟩ := Option.isSome_iff_exists.1 hl.1
        simp [List.mapM_cons, hfi, ih hl.2]
    have hm' := hm fs.toList hk2
    obtain ⟨l', h1, h2, h3⟩ := fillK_spec (place := fun j => (((fs.toList.map fun f => (f.offset, ((cx.P.info? f.type).map (·.size)).getD 0))).toArray)[j]?) (fun j x hx => by
      simp only [fldsOf, List.getElem?_map, Option.map_eq_some_iff, List.getElem?_toArray] at hx ⊢
      obtain ⟨g, hg, rfl⟩ := hx
      exact ⟨g, hg, rfl⟩) (lts_cs nx _) hp h
    refine ⟨_, SV.lt_agg.2 h2, h1, fun ρ w => ?_⟩
    refine run_build w t _ _ ?_
    unfold Program.built
    simp only [hi, hd, hz0, hm']
    have := h3 ρ
    rw [rfs_cs] at this
    simpa using this

/-! ### the slice operation -/
def optK (n : Nat) (env : Env) (K : Option Int → Prop) : Option Operand → Prop
  | none => K none
  | some x => evK n env x fun v => match v with | .c (.int _ z) => K (some z) | _ => False
theorem optK_spec {n : Nat} {ρ : Nat → Loc} {nx : Nat} {env : Env} {a : Act} (hs : Sat n ρ nx env a) {x : Option Operand} {K : Option Int → Prop} (h : optK n env K x) :
    ∃ z, K z ∧ ((z = none ∧ x.map a.eval = none) ∨ ∃ u k, z = some u ∧ x.map a.eval = some (.int k u)) := by
  cases x with
  | none => exact ⟨none, h, .inl ⟨rfl, rfl⟩⟩
  | some x =>
    obtain ⟨v, h1, h2, h3⟩ := evK_spec hs h
    split at h1
    · rename_i k z; exact ⟨some z, h1, .inr ⟨z, k, rfl, by simp [h2, SV.rf]⟩⟩
    · exact h1.elim

def sliceQ (cx : Cx) (t : TypeId) (x : SV) (H : Heap) (lo hi mx : Option Int) (K : SV → Prop) : Prop :=
  tabK t (fun ti => bif Nat.beq ti.kind 1 then
    (match x with
     | .c (.slice base len cap) => tabK ti.elem (fun te => sliceK base len cap te.size lo hi mx K) cx.tab
     | .os i _ => (match lo, hi, mx with
       | none, some z, none => tabK ti.elem (fun _ => findK i (fun e => match e with | .rows xs _ _ => prefK i xs.length z K | _ => False) H) cx.tab
       | _, _, _ => False)
     | _ => False) else False) cx.tab

theorem run_sliceBound_of (P : Program) (k : IntKind) (z : Int) (l y : Nat) (code : BoundsCode) (w : World) (hz : z = l) (hl : l ≤ y) : (Instr.sliceBound (.int k z) y code).run P w = .ok l w := by
  subst hz
  have := run_sliceBound (P := P) (w := w) k (l : Int) y code (by omega) (by omega)
  simpa using this

include hok in
theorem sliceQ_sound {t : TypeId} {x : SV} {ρ : Nat → Loc} {nx : Nat} {H : Heap} {S : Asn} {lo hi mx : Option Int} {vlo vhi vmx : Option Value} {K : SV → Prop}
    (h : sliceQ cx t x H lo hi mx K) (hx : x.lt nx)
    (hlo : (lo = none ∧ vlo = none) ∨ ∃ u k, lo = some u ∧ vlo = some (.int k u)) (hhi : (hi = none ∧ vhi = none) ∨ ∃ u k, hi = some u ∧ vhi = some (.int k u))
    (hmx : (mx = none ∧ vmx = none) ∨ ∃ u k, mx = some u ∧ vmx = some (.int k u)) :
    ∃ v, v.lt nx ∧ K v ∧ ∀ w, Abs cx.B ρ nx H S w → (Instr.sliceAt t (x.rf ρ) vlo vhi vmx).run cx.P w = .ok (v.rf ρ) w := by
  unfold sliceQ at h
  obtain ⟨ti, hti, h⟩ := tabK_spec hok h
  cases hk : Nat.beq ti.kind 1 with
  | false => rw [hk] at h; exact h.elim
  | true =>
    rw [hk, cond_true] at h
    obtain ⟨i, d, z, hi0, hd, hz0, rfl⟩ := mkTI_spec hti
    have hk' := Nat.eq_of_beq_eq_true hk
    cases d <;> simp [kindOf] at hk'
    rename_i e
    cases x with
    | c pv =>
      match pv, h with
      | .slice base len cap, h =>
        obtain ⟨te, hte, h⟩ := tabK_spec hok h
        obtain ⟨ie, de, ze, hie, hde, hze, rfl⟩ := mkTI_spec hte
        simp only [elemOf'] at hie
        rw [sliceK_def] at h
        obtain ⟨l, hh, m, e1, e2, e3, b1, b2, b3, b4, hK⟩ := h
        refine ⟨_, SV.lt_c _, hK, fun w _ => ?_⟩
        simp only [SV.rf, Instr.sliceAt, Instr.slice, Sem.run_bind, run_underlying hd, Result.andThen_ok, Instr.sliceBounds]
        rcases hmx with ⟨rfl, rfl⟩ | ⟨um, km, rfl, rfl⟩
        · simp only at e3
          subst e3
          rcases hhi with ⟨rfl, rfl⟩ | ⟨uh, kh, rfl, rfl⟩
          · simp only at e2
            subst e2
            rcases hlo with ⟨rfl, rfl⟩ | ⟨ul, kl, rfl, rfl⟩
            · simp only at e1; subst e1; simp [run_sizeOf_of hie]
            · simp only at e1; simp [run_sizeOf_of hie, run_sliceBound_of cx.P kl ul l hh _ w e1 b1]
          · simp only at e2
            rcases hlo with ⟨rfl, rfl⟩ | ⟨ul, kl, rfl, rfl⟩
            · simp only at e1; subst e1; simp [run_sizeOf_of hie, run_sliceBound_of cx.P kh uh hh m _ w e2 b2]
            · simp only at e1; simp [run_sizeOf_of hie, run_sliceBound_of cx.P kh uh hh m _ w e2 b2, run_sliceBound_of cx.P kl ul l hh _ w e1 b1]
        · simp only at e3
          rcases hhi with ⟨rfl, rfl⟩ | ⟨uh, kh, rfl, rfl⟩
          · simp at b4
          · simp only at e2
            rcases hlo with ⟨rfl, rfl⟩ | ⟨ul, kl, rfl, rfl⟩
            · simp only at e1; subst e1; simp [run_sizeOf_of hie, run_sliceBound_of cx.P km um m cap _ w e3 b3, run_sliceBound_of cx.P kh uh hh m _ w e2 b2]
            · simp only at e1; simp [run_sizeOf_of hie, run_sliceBound_of cx.P km um m cap _ w e3 b3, run_sliceBound_of cx.P kh uh hh m _ w e2 b2, run_sliceBound_of cx.P kl ul l hh _ w e1 b1]
    | os i len =>
      dsimp only at h
      match lo, hi, mx, h, hlo, hhi, hmx with
      | none, some z, none, h, hlo, hhi, hmx =>
        obtain ⟨te, hte, h⟩ := tabK_spec hok h
        obtain ⟨ie, de, ze, hie, hde, hze, rfl⟩ := mkTI_spec hte
        simp only [elemOf'] at hie
        obtain ⟨en, hen, h⟩ := findK_spec h
        cases en with
        | rows xs k T =>
          dsimp only at h
          rw [prefK_def] at h
          obtain ⟨l, rfl, hl, hK⟩ := h
          rcases hlo with ⟨_, rfl⟩ | ⟨_, _, h', _⟩
          case inr => cases h'
          rcases hmx with ⟨_, rfl⟩ | ⟨_, _, h', _⟩
          case inr => cases h'
          rcases hhi with ⟨h', _⟩ | ⟨uh, kh, h', rfl⟩
          case inl => cases h'
          obtain rfl : uh = (l : Int) := by simpa using h'.symm
          refine ⟨_, SV.lt_os (by have := hx i (by simp [SV.has]); exact this), hK, fun w hw => ?_⟩
          obtain ⟨R, φ, hw⟩ := hw
          obtain ⟨_, hcap, _⟩ := hw.ent _ hen
          simp only at hcap
          have hb := run_sliceBound_of cx.P kh (l : Int) l (ρ i).cap .sliceAcap w rfl (Nat.le_trans hl hcap)
          have hadd : (ρ i).base.map (·.add 0) = (ρ i).base := by cases (ρ i).base <;> simp [Addr.add]
          simp only [SV.rf, Instr.sliceAt, Instr.slice, Sem.run_bind, run_underlying hd, Result.andThen_ok, Instr.sliceBounds]
          simp [run_sizeOf_of hie, hb, hadd]
        | _ => exact h.elim
    | _ => exact h.elim
end
end Go.SX
