import Derived.Test.YtlcikmddmcdeeaaRF
namespace Go.Proofs.Ytlcikmddmcdeeaa
open Go.SX Go.RowKit
/-! The giving of registers, as a relation: which of the free ones is taken is left open, but for the least of some. -/
theorem ints_getD {xs : List Int} {k : Nat} (h : k < xs.length) : (ints xs)[k]? = some [.int .i64 (xs.getD k 0)] := by rw [ints_get h]; simp [List.getD, h]
def bump (d : Int) (l : List Int) (k : Int) : List Int := l.set k.toNat (l.getD k.toNat 0 + d)
theorem bump_length (d : Int) (l : List Int) (k : Int) : (bump d l k).length = l.length := by simp [bump]
def leftAt (l : List InstrV) (i : Nat) : List Int := ((l.take i).flatMap takenL).foldl (bump 1) (List.replicate l.length 0)
theorem leftAt_succ {l : List InstrV} {i : Nat} (h : i < l.length) : leftAt l (i + 1) = (takenL l[i]).foldl (bump 1) (leftAt l i) := by
  simp only [leftAt, List.take_succ_eq_append_getElem h, List.flatMap_append, List.foldl_append, List.flatMap_cons, List.flatMap_nil, List.append_nil]
/-- numbers between bounds -/
def within (m M : Int) (l : List Int) : Prop := ∀ k, m ≤ l.getD k 0 ∧ l.getD k 0 ≤ M
theorem getD_bump (d : Int) (l : List Int) (k : Int) (j : Nat) : (bump d l k).getD j 0 = if j = k.toNat ∧ j < l.length then l.getD k.toNat 0 + d else l.getD j 0 := by
  simp only [bump, List.getD_eq_getElem?_getD, List.getElem?_set]
  by_cases h : k.toNat = j
  · subst h
    by_cases hl : k.toNat < l.length
    · simp [hl]
    · simp [hl]
  · rw [if_neg h, if_neg (fun h' => h h'.1.symm)]
theorem within_bump {m M d : Int} {l : List Int} {k : Int} (h : within m M l) (hd : -1 ≤ d) (hd' : d ≤ 1) : within (m - 1) (M + 1) (bump d l k) := by
  intro j
  rw [getD_bump]
  have h1 := h j
  have h2 := h k.toNat
  split <;> omega
theorem within_down {m M : Int} {l : List Int} {k : Int} (h : within m M l) : within (m - 1) M (bump (-1) l k) := by
  intro j
  rw [getD_bump]
  have h1 := h j
  have h2 := h k.toNat
  split <;> omega
theorem within_up {m M : Int} {l : List Int} {k : Int} (h : within m M l) : within m (M + 1) (bump 1 l k) := by
  intro j
  rw [getD_bump]
  have h1 := h j
  have h2 := h k.toNat
  split <;> omega
theorem within.mono {m M m' M' : Int} {l : List Int} (h : within m M l) (h1 : m' ≤ m) (h2 : M ≤ M') : within m' M' l := fun k => by have := h k; omega
structure RegSt where
  left : List Int
  reg : List Int
  sp : List Int
  cnt : Nat
  out : List InstrV
def Take1 (reg : List Int) (k : Int) (p q : List Int × List Int) : Prop :=
  q.1 = bump (-1) p.1 k ∧ (q.1.getD k.toNat 0 = 0 → q.2.Perm (reg.getD k.toNat 0 :: p.2) ∧ (Least p.2 → Least q.2)) ∧ (q.1.getD k.toNat 0 ≠ 0 → q.2 = p.2)
def Takes (reg : List Int) : List Int → List Int × List Int → List Int × List Int → Prop
  | [], p, q => p = q
  | k :: r, p, q => ∃ m, Take1 reg k p m ∧ Takes reg r m q
theorem Takes.snoc {reg : List Int} {k : Int} : ∀ {ks : List Int} {p q q' : List Int × List Int}, Takes reg ks p q → Take1 reg k q q' → Takes reg (ks ++ [k]) p q'
  | [], p, q, q', h, h1 => by cases h; exact ⟨q', h1, rfl⟩
  | _ :: _, _, _, _, ⟨m, h, hr⟩, h1 => ⟨m, h, hr.snoc h1⟩
def outOf (reg : List Int) (x : InstrV) (r : Int) : InstrV := ⟨x.op, r, if 1 ≤ takesN x.op then reg.getD x.a.toNat 0 else 0, if 2 ≤ takesN x.op then reg.getD x.b.toNat 0 else 0, x.k⟩
def StepR (x : InstrV) (i : Nat) (s s' : RegSt) : Prop :=
  ∃ q : List Int × List Int, Takes s.reg (takenL x) (s.left, s.sp) q ∧ ∃ (r : Int) (tl sp3 : List Int),
    ((q.2 = [] ∧ r = s.cnt ∧ tl = [] ∧ s'.cnt = s.cnt + 1) ∨ (q.2 = r :: tl ∧ s'.cnt = s.cnt)) ∧ sp3.Perm tl ∧ s'.left = q.1 ∧ s'.reg = s.reg.set i r ∧
    (q.1.getD i 0 = 0 → s'.sp.Perm (r :: sp3)) ∧ (q.1.getD i 0 ≠ 0 → s'.sp = sp3) ∧ s'.out = s.out ++ [outOf s.reg x r]
def regInit (l : List InstrV) : RegSt := ⟨bump 1 (leftAt l l.length) (l.length - 1 : Nat), List.replicate l.length 0, [], 0, []⟩
def Reach (l : List InstrV) : Nat → RegSt → Prop
  | 0, s => s = regInit l
  | i + 1, s => ∃ s0 x, Reach l i s0 ∧ l[i]? = some x ∧ StepR x i s0 s
/-- what the walk needs of a state -/
structure RegOk (l : List InstrV) (i : Nat) (s : RegSt) : Prop where
  left : s.left.length = l.length
  reg : s.reg.length = l.length
  out : s.out.length = i
  bound : within (-2 * i) 10000 s.left
  few : s.sp.length ≤ 3 * i
  cnt : s.cnt ≤ i
theorem stepR_mk {x : InstrV} {i : Nat} {s : RegSt} {q : List Int × List Int} {r : Int} {tl sp3 sp' : List Int} {cnt' : Nat} (ht : Takes s.reg (takenL x) (s.left, s.sp) q) (hc : (q.2 = [] ∧ r = s.cnt ∧ tl = [] ∧ cnt' = s.cnt + 1) ∨ (q.2 = r :: tl ∧ cnt' = s.cnt)) (hp : sp3.Perm tl)
    (h0 : q.1.getD i 0 = 0 → sp'.Perm (r :: sp3)) (h1 : q.1.getD i 0 ≠ 0 → sp' = sp3) : StepR x i s ⟨q.1, s.reg.set i r, sp', cnt', s.out ++ [outOf s.reg x r]⟩ :=
  ⟨q, ht, r, tl, sp3, hc, hp, rfl, rfl, h0, h1, rfl⟩
end Go.Proofs.Ytlcikmddmcdeeaa
