import Derived.Test.YtajbngkcgbehlaaSxA
namespace Go.SX
open Go.RowKit

/-- What is asked of a type. kind: 1 slice, 2 array, 3 struct, 4 string, 5 bool, 6 int, 7 pointer, 8 map, 9 interface, 0 other. -/
structure TI where
  size : Nat
  agg : Bool
  kind : Nat
  elem : Nat
  bytes : Nat
  ik : IntKind
  flds : List (Nat × Nat × Nat)
  okf : Bool
  zero : List Value

def kindOf : TypeDesc → Nat
  | .slice _ => 1 | .array _ _ => 2 | .struct _ => 3 | .string => 4 | .bool => 5 | .int _ => 6 | .pointer _ => 7 | .map _ _ => 8 | .interface _ => 9 | _ => 0
def elemOf' : TypeDesc → Nat
  | .slice e => e | .array _ e => e | .pointer e => e | _ => 0
def ikOf : TypeDesc → IntKind
  | .int k => k | _ => .i64
def aggOf : TypeDesc → Bool
  | .struct _ => true | .array _ _ => true | _ => false
def aggCode : Option TypeDesc → Nat
  | none => 2
  | some d => bif aggOf d then 1 else 0
def fldsOf (P : Program) : TypeDesc → List (Nat × Nat × Nat)
  | .struct fs => fs.toList.map fun f => (f.offset, ((P.info? f.type).map (·.size)).getD 0, aggCode (P.underlying f.type))
  | _ => []
def okfOf (P : Program) : TypeDesc → Bool
  | .struct fs => fs.toList.all fun f => (P.info? f.type).isSome
  | _ => true
def mkTI (P : Program) (t : TypeId) : Option TI :=
  match P.info? t, P.underlying t with
  | some i, some d => i.zero.map fun z => ⟨i.size, aggOf d, kindOf d, elemOf' d, i.bytes, ikOf d, fldsOf P d, okfOf P d, z.cells.toList⟩
  | _, _ => none

structure Cx where
  P : Program
  B : Base
  n : Nat
  tab : List (Nat × TI)

def tabK (t : Nat) (K : TI → Prop) : List (Nat × TI) → Prop
  | [] => False
  | (j, i) :: r => bif Nat.beq j t then K i else tabK t K r
theorem tabK_spec {t : Nat} {K : TI → Prop} {P : Program} : ∀ {l : List (Nat × TI)}, (∀ p ∈ l, mkTI P p.1 = some p.2) → tabK t K l → ∃ i, mkTI P t = some i ∧ K i
  | [], _, h => h.elim
  | (j, i) :: r, hl, h => by
    unfold tabK at h
    cases hb : Nat.beq j t with
    | true =>
      rw [hb] at h
      have := Nat.eq_of_beq_eq_true hb
      subst this
      exact ⟨i, hl (j, i) (by simp), h⟩
    | false => rw [hb] at h; exact tabK_spec (fun p hp => hl p (by simp [hp])) h

theorem mkTI_spec {P : Program} {t : TypeId} {ti : TI} (h : mkTI P t = some ti) : ∃ i d z, P.info? t = some i ∧ P.underlying t = some d ∧ i.zero = some z ∧
    ti = ⟨i.size, aggOf d, kindOf d, elemOf' d, i.bytes, ikOf d, fldsOf P d, okfOf P d, z.cells.toList⟩ := by
  unfold mkTI at h
  split at h
  · rename_i i d h1 h2
    simp only [Option.map_eq_some_iff] at h
    obtain ⟨z, hz, h⟩ := h
    exact ⟨i, d, z, h1, h2, hz, h.symm⟩
  · cases h

theorem run_isAgg_of {P : Program} {t : TypeId} {d : TypeDesc} (h : P.underlying t = some d) (w : World) : (isAgg t).run P w = .ok (aggOf d) w := by
  unfold isAgg
  simp only [Sem.run_bind, run_underlying h, Result.andThen_ok]
  cases d <;> rfl
theorem run_sizeOf_of {P : Program} {t : TypeId} {i : TypeInfo} (h : P.info? t = some i) (w : World) : (sizeOf t).run P w = .ok i.size w := by
  simp [sizeOf, typeInfo, h]

/-- The symbolic frame reads as the frame: the temporaries that it names. -/
structure Sat (n : Nat) (ρ : Nat → Loc) (nx : Nat) (env : Env) (a : Act) : Prop where
  defers : a.defers = []
  size : a.tmps.size = n
  val : ∀ t v, env.get t = some v → t < n → a.tmps[t]? = some (v.rf ρ)
  lt : ∀ t v, env.get t = some v → v.lt nx

def getK (t : Nat) (K : SV → Prop) : Env → Prop
  | [] => False
  | (j, v) :: r => bif Nat.beq j t then K v else getK t K r
theorem getK_spec {t : Nat} {K : SV → Prop} : ∀ {env : Env}, getK t K env → ∃ v, env.get t = some v ∧ K v
  | [], h => h.elim
  | (j, v) :: r, h => by
    unfold getK at h
    simp only [Env.get]
    cases hb : Nat.beq j t with
    | true => rw [hb] at h; exact ⟨v, rfl, h⟩
    | false => rw [hb] at h; exact getK_spec h

def evK (n : Nat) (env : Env) (x : Operand) (K : SV → Prop) : Prop :=
  match x with
  | .tmp t => bif Nat.ble n t then False else getK t K env
  | .const v => K (.c v)
  | .global g => K (.c (.pointer (some ⟨g, 0, none⟩)))
  | .func f => K (.c (.func (.func f) #[] #[]))

theorem evK_spec {n : Nat} {ρ : Nat → Loc} {nx : Nat} {env : Env} {a : Act} {x : Operand} {K : SV → Prop} (hs : Sat n ρ nx env a) (h : evK n env x K) :
    ∃ v, K v ∧ a.eval x = v.rf ρ ∧ v.lt nx := by
  cases x with
  | tmp t =>
    simp only [evK] at h
    cases hb : Nat.ble n t with
    | true => rw [hb] at h; exact h.elim
    | false =>
      rw [hb, cond_false] at h
      obtain ⟨v, hv, h⟩ := getK_spec h
      have ht : t < n := by
        rcases Nat.lt_or_ge t n with h' | h'
        · exact h'
        · rw [Nat.ble_eq_true_of_le h'] at hb; cases hb
      refine ⟨_, h, ?_, hs.lt t v hv⟩
      have := hs.val t v hv ht
      simp [Act.eval, Array.getD_eq_getD_getElem?, this]
  | const v => exact ⟨_, h, rfl, SV.lt_c _⟩
  | global g => exact ⟨_, h, rfl, SV.lt_c _⟩
  | func f => exact ⟨_, h, rfl, SV.lt_c _⟩

/-- Several operands. -/
def evsK (n : Nat) (env : Env) (K : List SV → Prop) : List Operand → Prop
  | [] => K []
  | x :: r => evK n env x fun v => evsK n env (fun l => K (v :: l)) r
theorem evsK_spec {n : Nat} {ρ : Nat → Loc} {nx : Nat} {env : Env} {a : Act} (hs : Sat n ρ nx env a) : ∀ {xs : List Operand} {K : List SV → Prop}, evsK n env K xs →
    ∃ l, K l ∧ xs.map a.eval = SV.rfs ρ l ∧ SV.lts nx l
  | [], K, h => ⟨[], h, rfl, fun i hi => by simp [SV.hass] at hi⟩
  | x :: r, K, h => by
    obtain ⟨v, h1, h2, h3⟩ := evK_spec hs h
    obtain ⟨l, h4, h5, h6⟩ := evsK_spec hs (xs := r) h1
    refine ⟨v :: l, h4, by simp [SV.rfs, h2, h5], fun i hi => ?_⟩
    simp only [SV.hass, Bool.or_eq_true] at hi
    exact hi.elim (h3 i) (h6 i)

/-! ### Nodes at which the walk stands: each is a plain statement -/
structure wrapK (k : IntKind) (z : Int) (K : Int → Prop) : Prop where
  out : K (k.wrap z)
theorem wrapK_def {k : IntKind} {z : Int} {K : Int → Prop} : wrapK k z K = (K (k.wrap z)) := propext ⟨fun h => h.out, fun h => ⟨h⟩⟩
structure cmpK (p : Prop) [Decidable p] (K : Bool → Prop) : Prop where
  out : (p → K true) ∧ (¬ p → K false)
theorem cmpK_def {p : Prop} [Decidable p] {K : Bool → Prop} : cmpK p K = ((p → K true) ∧ (¬ p → K false)) := propext ⟨fun h => h.out, fun h => ⟨h⟩⟩
structure boolK (b : Bool) (K : Bool → Prop) : Prop where
  out : (b = true → K true) ∧ (b = false → K false)
theorem boolK_def {b : Bool} {K : Bool → Prop} : boolK b K = ((b = true → K true) ∧ (b = false → K false)) := propext ⟨fun h => h.out, fun h => ⟨h⟩⟩
structure divK (k : IntKind) (x y : Int) (K : Int → Prop) : Prop where
  out : y ≠ 0 ∧ K (k.wrap (x.tdiv y))
theorem divK_def {k : IntKind} {x y : Int} {K : Int → Prop} : divK k x y K = (y ≠ 0 ∧ K (k.wrap (x.tdiv y))) := propext ⟨fun h => h.out, fun h => ⟨h⟩⟩
structure remK (x y : Int) (K : Int → Prop) : Prop where
  out : y ≠ 0 ∧ K (x.tmod y)
theorem remK_def {x y : Int} {K : Int → Prop} : remK x y K = (y ≠ 0 ∧ K (x.tmod y)) := propext ⟨fun h => h.out, fun h => ⟨h⟩⟩
structure shiftK (op : BinOp) (k : IntKind) (x y : Int) (K : Int → Prop) : Prop where
  out : 0 ≤ y ∧ ∃ z, (match op with | .shl => z = k.wrap (x * 2 ^ (min y.toNat k.bits)) | _ => z = x.fdiv (2 ^ (min y.toNat k.bits))) ∧ K z
theorem shiftK_def {op : BinOp} {k : IntKind} {x y : Int} {K : Int → Prop} : shiftK op k x y K = (0 ≤ y ∧ ∃ z, (match op with | .shl => z = k.wrap (x * 2 ^ (min y.toNat k.bits)) | _ => z = x.fdiv (2 ^ (min y.toNat k.bits))) ∧ K z) := propext ⟨fun h => h.out, fun h => ⟨h⟩⟩
def bitsOf (op : BinOp) (k : IntKind) (x y : Int) : Int :=
  let a := BitVec.ofInt k.bits x
  let b := BitVec.ofInt k.bits y
  match op with
  | .and => k.wrap (a &&& b).toNat
  | .or => k.wrap (a ||| b).toNat
  | .xor => k.wrap (a ^^^ b).toNat
  | _ => k.wrap (a &&& ~~~b).toNat
structure bitsK (op : BinOp) (k : IntKind) (x y : Int) (K : Int → Prop) : Prop where
  out : K (bitsOf op k x y)
theorem bitsK_def {op : BinOp} {k : IntKind} {x y : Int} {K : Int → Prop} : bitsK op k x y K = (K (bitsOf op k x y)) := propext ⟨fun h => h.out, fun h => ⟨h⟩⟩
/-- Whatever value it is, in every world. -/
structure pureK (P : Program) (s : Sem Value) (K : SV → Prop) : Prop where
  out : ∃ v, (∀ w, s.run P w = .ok v w) ∧ K (.c v)
theorem pureK_def {P : Program} {s : Sem Value} {K : SV → Prop} : pureK P s K = (∃ v, (∀ w, s.run P w = .ok v w) ∧ K (.c v)) := propext ⟨fun h => h.out, fun h => ⟨h⟩⟩

/-- Facts on the world at hand. -/
def Knows (B : Base) (nx : Nat) (H : Heap) (S : Asn) (p : (Nat → Loc) → World → Prop) : Prop := ∀ ρ w, Abs B ρ nx H S w → p ρ w

structure roK (a : Addr) (S : Asn) (K : SV → Prop) : Prop where
  out : ∃ v, (∀ R w, S.holds R w → w.cell? a = some v) ∧ K (.c v)
theorem roK_def {a : Addr} {S : Asn} {K : SV → Prop} : roK a S K = (∃ v, (∀ R w, S.holds R w → w.cell? a = some v) ∧ K (.c v)) := propext ⟨fun h => h.out, fun h => ⟨h⟩⟩
def cs : List Value → List SV
  | [] => []
  | v :: r => .c v :: cs r
theorem rfs_cs (ρ : Nat → Loc) (l : List Value) : SV.rfs ρ (cs l) = l := by
  induction l with
  | nil => rfl
  | cons a r ih => simp [cs, SV.rfs, SV.rf, ih]
theorem lts_cs (nx : Nat) (l : List Value) : SV.lts nx (cs l) := by
  induction l with
  | nil => intro i hi; simp [cs, SV.hass] at hi
  | cons a r ih => intro i hi; simp only [cs, SV.hass, SV.has, Bool.false_or] at hi; exact ih i hi
structure roAggK (a : Addr) (n : Nat) (S : Asn) (K : List Value → Prop) : Prop where
  out : ∃ l, l.length = n ∧ (∀ R w, S.holds R w → ∀ j v, l[j]? = some v → w.cell? (a.add j) = some v) ∧ K l
theorem roAggK_def {a : Addr} {n : Nat} {S : Asn} {K : List Value → Prop} : roAggK a n S K = (∃ l, l.length = n ∧ (∀ R w, S.holds R w → ∀ j v, l[j]? = some v → w.cell? (a.add j) = some v) ∧ K l) := propext ⟨fun h => h.out, fun h => ⟨h⟩⟩
structure rowK (xs : List (List Value)) (j f : Nat) (K : Value → Prop) : Prop where
  out : ∃ r v, xs[j]? = some r ∧ r[f]? = some v ∧ K v
theorem rowK_def {xs : List (List Value)} {j f : Nat} {K : Value → Prop} : rowK xs j f K = (∃ r v, xs[j]? = some r ∧ r[f]? = some v ∧ K v) := propext ⟨fun h => h.out, fun h => ⟨h⟩⟩
structure rowAggK (xs : List (List Value)) (j f n : Nat) (K : List Value → Prop) : Prop where
  out : ∃ r l, xs[j]? = some r ∧ l.length = n ∧ (r.drop f).take n = l ∧ K l
theorem rowAggK_def {xs : List (List Value)} {j f n : Nat} {K : List Value → Prop} : rowAggK xs j f n K = (∃ r l, xs[j]? = some r ∧ l.length = n ∧ (r.drop f).take n = l ∧ K l) := propext ⟨fun h => h.out, fun h => ⟨h⟩⟩
structure idxK (base : Option Addr) (len size : Nat) (z : Int) (K : SV → Prop) : Prop where
  out : ∃ a, base = some a ∧ 0 ≤ z ∧ z < len ∧ K (.c (.pointer (some (a.add (z.toNat * size)))))
theorem idxK_def {base : Option Addr} {len size : Nat} {z : Int} {K : SV → Prop} : idxK base len size z K = (∃ a, base = some a ∧ 0 ≤ z ∧ z < len ∧ K (.c (.pointer (some (a.add (z.toNat * size)))))) := propext ⟨fun h => h.out, fun h => ⟨h⟩⟩
structure idxRowK (i len m size : Nat) (z : Int) (K : SV → Prop) : Prop where
  out : ∃ j : Nat, z = j ∧ j < len ∧ len ≤ m ∧ K (.lp i j size 0)
theorem idxRowK_def {i len m size : Nat} {z : Int} {K : SV → Prop} : idxRowK i len m size z K = (∃ j : Nat, z = j ∧ j < len ∧ len ≤ m ∧ K (.lp i j size 0)) := propext ⟨fun h => h.out, fun h => ⟨h⟩⟩
structure sliceK (base : Option Addr) (len cap size : Nat) (lo hi mx : Option Int) (K : SV → Prop) : Prop where
  out : ∃ l h m : Nat, (match lo with | some z => z = l | none => l = 0) ∧ (match hi with | some z => z = h | none => h = len) ∧ (match mx with | some z => z = m | none => m = cap) ∧
    l ≤ h ∧ h ≤ m ∧ m ≤ cap ∧ (mx.isSome = true → hi.isSome = true) ∧ K (.c (.slice (if m = l then base else base.map (·.add (l * size))) (h - l) (m - l)))
theorem sliceK_def {base : Option Addr} {len cap size : Nat} {lo hi mx : Option Int} {K : SV → Prop} : sliceK base len cap size lo hi mx K = (∃ l h m : Nat, (match lo with | some z => z = l | none => l = 0) ∧ (match hi with | some z => z = h | none => h = len) ∧ (match mx with | some z => z = m | none => m = cap) ∧
    l ≤ h ∧ h ≤ m ∧ m ≤ cap ∧ (mx.isSome = true → hi.isSome = true) ∧ K (.c (.slice (if m = l then base else base.map (·.add (l * size))) (h - l) (m - l)))) := propext ⟨fun h => h.out, fun h => ⟨h⟩⟩
structure prefK (i m : Nat) (z : Int) (K : SV → Prop) : Prop where
  out : ∃ l : Nat, z = l ∧ l ≤ m ∧ K (.os i l)
theorem prefK_def {i m : Nat} {z : Int} {K : SV → Prop} : prefK i m z K = (∃ l : Nat, z = l ∧ l ≤ m ∧ K (.os i l)) := propext ⟨fun h => h.out, fun h => ⟨h⟩⟩

def nthK (K : SV → Prop) : List SV → Nat → Prop
  | [], _ => False
  | v :: r, n => bif Nat.beq n 0 then K v else nthK K r (Nat.pred n)
theorem nthK_spec {K : SV → Prop} : ∀ {l : List SV} {n : Nat}, nthK K l n → ∃ v, l[n]? = some v ∧ K v
  | [], _, h => h.elim
  | v :: r, n, h => by
    unfold nthK at h
    cases n with
    | zero => exact ⟨v, rfl, h⟩
    | succ n => obtain ⟨u, h1, h2⟩ := nthK_spec (l := r) (n := n) h; exact ⟨u, by simpa using h1, h2⟩
/-- n of a list from f on. -/
def segK (K : List SV → Prop) : List SV → Nat → Nat → Prop
  | _, _, 0 => K []
  | l, f, n + 1 => nthK (fun v => segK (fun r => K (v :: r)) l (f + 1) n) l f
theorem segK_spec {l : List SV} : ∀ {n f : Nat} {K : List SV → Prop}, segK K l f n → ∃ r, r.length = n ∧ (∀ j v, r[j]? = some v → l[f + j]? = some v) ∧ K r
  | 0, f, K, h => ⟨[], rfl, by simp, h⟩
  | n + 1, f, K, h => by
    unfold segK at h
    obtain ⟨v, h1, h2⟩ := nthK_spec h
    obtain ⟨r, h3, h4, h5⟩ := segK_spec h2
    refine ⟨v :: r, by simp [h3], fun j u hj => ?_, h5⟩
    cases j with
    | zero => simpa [h1] using hj
    | succ j => have := h4 j u (by simpa using hj); rw [← this]; congr 1; omega

def findK (i : Nat) (K : Ent → Prop) : Heap → Prop
  | [] => False
  | (j, e) :: r => bif Nat.beq j i then K e else findK i K r
theorem findK_spec {i : Nat} {K : Ent → Prop} : ∀ {H : Heap}, findK i K H → ∃ e, (i, e) ∈ H ∧ K e
  | [], h => h.elim
  | (j, e) :: r, h => by
    unfold findK at h
    cases hb : Nat.beq j i with
    | true => rw [hb] at h; have := Nat.eq_of_beq_eq_true hb; subst this; exact ⟨e, by simp, h⟩
    | false => rw [hb] at h; obtain ⟨e', h1, h2⟩ := findK_spec h; exact ⟨e', by simp [h1], h2⟩

end Go.SX
