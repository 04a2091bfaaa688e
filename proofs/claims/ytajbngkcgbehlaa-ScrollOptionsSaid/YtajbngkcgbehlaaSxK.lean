import Derived.Test.YtajbngkcgbehlaaSxJ
namespace Go.SX
open Go.RowKit

section
variable {P : Program} {sT xT ty e : TypeId} {i : TypeInfo} {z : Value} {xd : TypeDesc}
theorem run_append_in {w : World} (hs : P.underlying sT = some (.slice e)) (hx : P.underlying xT = some xd) (hxi : ∀ k, xd ≠ .int k) (hi : P.info? e = some i) {b off sLen sCap n xc : Nat} {xb : Option Addr} {T : TypeId} {c : Array Value} {news : List Value}
    (hneed : sLen + n ≤ sCap) (hf : (Builtin.firstCells i.size n (.slice xb n xc)).run P w = .ok news.toArray w) (hb : w.heap[b]? = some (.cells c T (0, 0)))
    (hfit : off + sLen * i.size + news.length ≤ c.size) (h1 : ∀ v ∈ news, v.oneCell' = true) :
    (Builtin.append_ #[sT, xT] ty #[.slice (some ⟨b, off, none⟩) sLen sCap, .slice xb n xc]).run P w =
      .ok (.slice (some ⟨b, off, none⟩) (sLen + n) sCap) (w.setRow b (setFrom c.toList (off + sLen * i.size) news).toArray) := by
  have hst := run_storeCells_at P b (off + sLen * i.size) T news 0 c w hb (by simpa using hfit) h1
  have hz : (match xd with | .int _ => true | _ => false) = false := by cases xd <;> first | rfl | exact absurd rfl (hxi _)
  unfold Builtin.append_
  simp only [List.getElem?_toArray, List.getElem?_cons_zero, List.getElem?_cons_succ, Sem.run_bind, run_underlying hs, Result.andThen_ok, run_sizeOf_of hi, run_underlying hx, Sem.run_pure, Bool.false_eq_true, if_false,
    Builtin.lenOf, Sem.run_ite, if_pos hneed, Bool.not_false, if_true, hf, add_none]
  rw [setFrom_eq _ _ _ (by simpa using hfit)]
  simp at hst
  simp [hst]

theorem run_append_nil0 {w : World} (hs : P.underlying sT = some (.slice e)) (hx : P.underlying xT = some xd) (hxi : ∀ k, xd ≠ .int k) (hi : P.info? e = some i) {sLen sCap xc : Nat} {xb : Option Addr} {a : Array Value} (hneed : sLen ≤ sCap)
    (hf : (Builtin.firstCells i.size 0 (.slice xb 0 xc)).run P w = .ok a w) :
    (Builtin.append_ #[sT, xT] ty #[.slice none sLen sCap, .slice xb 0 xc]).run P w = .ok (.slice none sLen sCap) w := by
  have hz : (match xd with | .int _ => true | _ => false) = false := by cases xd <;> first | rfl | exact absurd rfl (hxi _)
  unfold Builtin.append_
  simp only [List.getElem?_toArray, List.getElem?_cons_zero, List.getElem?_cons_succ, Sem.run_bind, run_underlying hs, Result.andThen_ok, run_sizeOf_of hi, run_underlying hx, Sem.run_pure, Bool.false_eq_true, if_false,
    Builtin.lenOf, Sem.run_ite, Nat.add_zero, if_pos hneed, Bool.not_false, if_true, hf]

theorem run_append_out {w : World} (hs : P.underlying sT = some (.slice e)) (hx : P.underlying xT = some xd) (hxi : ∀ k, xd ≠ .int k) (hi : P.info? e = some i) (hz0 : i.zero = some z) (hby : i.bytes ≠ 0) {sb xb : Option Addr} {sLen sCap n xc : Nat} {olds news : List Value}
    (hneed : sCap < sLen + n) (hfo : (Builtin.firstCells i.size sLen (.slice sb sLen sCap)).run P w.drew = .ok olds.toArray w.drew) (hf : (Builtin.firstCells i.size n (.slice xb n xc)).run P w.drew = .ok news.toArray w.drew)
    (hroom : (sLen + n) * i.bytes ≤ 140737488355328) :
    (Builtin.append_ #[sT, xT] ty #[.slice sb sLen sCap, .slice xb n xc]).run P w =
      .ok (.slice (some ⟨w.heap.size, 0, none⟩) (sLen + n) (grownCap w (sLen + n) sCap e))
        (w.drew.alloc (.cells (olds ++ news ++ (Builtin.zeroCells z.cells (grownCap w (sLen + n) sCap e - (sLen + n))).toList).toArray e)) := by
  have hz : (match xd with | .int _ => true | _ => false) = false := by cases xd <;> first | rfl | exact absurd rfl (hxi _)
  have hn : ¬ (sLen + n ≤ sCap) := by omega
  have h48 := growslice_fits hneed hroom
  have h48' : ¬ (Builtin.nextslicecap (sLen + n) sCap * i.bytes > 2 ^ 48) := by omega
  have h63 : ¬ (((sLen + n : Nat) : Int) > IntKind.i64.max ∧ ((false = true) ∨ i.bytes = 0)) := by simp [hby]
  unfold Builtin.append_
  simp only [List.getElem?_toArray, List.getElem?_cons_zero, List.getElem?_cons_succ, Sem.run_bind, run_underlying hs, Result.andThen_ok, run_sizeOf_of hi, run_underlying hx, Sem.run_pure, Bool.false_eq_true, if_false,
    Builtin.lenOf, Sem.run_ite, if_neg hn, Bool.not_false, if_true, typeInfo, run_program, hi, hby, or_self, and_false, if_neg h48']
  simp [Question.forced, run_askRoom, zeroValue, typeInfo, hi, hz0, newRow, grownCap]
  simp [hfo, hf]
  congr 2
  apply Array.ext'
  simp
end

theorem flatten_get {k : Nat} : ∀ {xs : List (List Value)}, (∀ r ∈ xs, r.length = k) → ∀ {p : Nat} {v : Value}, xs.flatten[p]? = some v → ∃ i j r, xs[i]? = some r ∧ r[j]? = some v ∧ p = i * k + j
  | [], _, p, v, h => by simp at h
  | x :: xs, hk, p, v, h => by
    have hx := hk x (by simp)
    rw [List.flatten_cons] at h
    by_cases hp : p < k
    · rw [List.getElem?_append_left (by omega)] at h
      exact ⟨0, p, x, rfl, h, by omega⟩
    · rw [List.getElem?_append_right (by omega)] at h
      obtain ⟨i, j, r, h1, h2, h3⟩ := flatten_get (k := k) (fun r hr => hk r (by simp [hr])) h
      exact ⟨i + 1, j, r, by simpa using h1, h2, by rw [Nat.succ_mul]; omega⟩
theorem flatten_length {k : Nat} : ∀ {xs : List (List Value)}, (∀ r ∈ xs, r.length = k) → xs.flatten.length = xs.length * k
  | [], _ => by simp
  | x :: xs, hk => by
    rw [List.flatten_cons, List.length_append, flatten_length (k := k) (fun r hr => hk r (by simp [hr])), hk x (by simp), List.length_cons, Nat.succ_mul]; omega
theorem flatten_at {k : Nat} {v : Value} : ∀ {xs : List (List Value)}, (∀ r ∈ xs, r.length = k) → ∀ {i j : Nat} {r : List Value}, xs[i]? = some r → r[j]? = some v → xs.flatten[i * k + j]? = some v
  | [], _, i, j, r, h, _ => by simp at h
  | x :: xs, hk, i, j, r, h, hj => by
    have hx := hk x (by simp)
    rw [List.flatten_cons]
    cases i with
    | zero =>
      simp at h; subst h
      have := (List.getElem?_eq_some_iff.1 hj).1
      rw [List.getElem?_append_left (by omega)]
      simpa using hj
    | succ i =>
      have := flatten_at (k := k) (xs := xs) (fun r hr => hk r (by simp [hr])) (i := i) (by simpa using h) hj
      rw [List.getElem?_append_right (by rw [Nat.succ_mul]; omega), ← this]
      congr 1; rw [Nat.succ_mul]; omega

theorem rowsAt_flatten {k : Nat} {xs : List (List Value)} (hk : ∀ r ∈ xs, r.length = k) (rest : List Value) : RowsAt (xs.flatten ++ rest).toArray 0 k xs := by
  intro i r hi j v hj
  have hl := flatten_at hk hi hj
  have := (List.getElem?_eq_some_iff.1 hl).1
  simp only [List.getElem?_toArray, Nat.zero_add]
  rw [List.getElem?_append_left this]; exact hl

theorem cells_of_rows {c : Array Value} {off k : Nat} {xs : List (List Value)} (hk : ∀ r ∈ xs, r.length = k) (h : RowsAt c off k xs) {p : Nat} {v : Value} (hp : xs.flatten[p]? = some v) : c[off + p]? = some v := by
  obtain ⟨i, j, r, h1, h2, rfl⟩ := flatten_get hk hp
  rw [← Nat.add_assoc]; exact h i r h1 j v h2

theorem rowsAt_mono {c : Array Value} {off k m : Nat} {xs : List (List Value)} (h : RowsAt c off k xs) : RowsAt c off k (xs.take m) := by
  intro i r hi
  rw [List.getElem?_take] at hi
  split at hi
  · exact h i r hi
  · cases hi

theorem rowsAt_append {c : Array Value} {off k : Nat} {xs ys : List (List Value)} (hkx : ∀ r ∈ xs, r.length = k) (hky : ∀ r ∈ ys, r.length = k) (h : RowsAt c off k xs) (hc : off + (xs.length + ys.length) * k ≤ c.size) :
    RowsAt (setFrom c.toList (off + xs.length * k) ys.flatten).toArray off k (xs ++ ys) := by
  have hfl := flatten_length hky
  have hfit : off + xs.length * k + ys.flatten.length ≤ c.toList.length := by
    have e1 : c.toList.length = c.size := by simp
    rw [hfl, e1]; rw [Nat.add_mul] at hc; omega
  intro i r hi j v hj
  rw [List.getElem?_toArray, setFrom_get _ _ _ _ hfit]
  by_cases hix : i < xs.length
  · rw [List.getElem?_append_left hix] at hi
    have hjk : j < k := by rw [← hkx r (List.mem_of_getElem? hi)]; exact (List.getElem?_eq_some_iff.1 hj).1
    have : (i + 1) * k ≤ xs.length * k := Nat.mul_le_mul_right k hix
    rw [Nat.succ_mul] at this
    rw [if_neg (by omega), Array.getElem?_toList]
    exact h i r hi j v hj
  · rw [List.getElem?_append_right (by omega)] at hi
    have hl := flatten_at hky hi hj
    have hlt := (List.getElem?_eq_some_iff.1 hl).1
    have e : i * k = xs.length * k + (i - xs.length) * k := by rw [← Nat.add_mul]; congr 1; omega
    rw [if_pos (by omega), ← hl]
    congr 1; omega

end Go.SX
