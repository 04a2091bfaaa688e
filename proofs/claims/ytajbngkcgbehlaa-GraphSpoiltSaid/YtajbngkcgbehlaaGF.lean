import Derived.Test.YtajbngkcgbehlaaGE
namespace Go.Proofs.Ytajbngkcgbehlaa
open Go.SX Go.RowKit
/-! Plain: shapes -/
theorem entLoop_bd : ∀ (xs : List Int) (n : Int), 1 ≤ n → n ≤ 64 → 0 ≤ entLoop n xs ∧ entLoop n xs ≤ 64
  | [], n, h1, h2 => ⟨by simp only [entLoop]; omega, by simpa only [entLoop] using h2⟩
  | d :: r, n, h1, h2 => by
    simp only [entLoop]
    by_cases h : d < 1 ∨ d > 64 / n
    · rw [if_pos h]; omega
    · rw [if_neg h]
      have h3 : ¬ n * d > 64 := fun g => h (.inr ((entRef h1 (by omega)).2 g))
      have h4 : n * 1 ≤ n * d := Int.mul_le_mul_of_nonneg_left (by omega) (by omega)
      exact entLoop_bd r (n * d) (by omega) (by omega)
theorem entries_bd (xs : List Int) : 0 ≤ entries xs ∧ entries xs ≤ 64 := by
  unfold entries
  split
  · omega
  · exact entLoop_bd xs 1 (by omega) (by omega)
theorem entLoop_dims : ∀ (xs : List Int) (n : Int), 1 ≤ n → n ≤ 64 → 0 < entLoop n xs → ∀ x ∈ xs, 1 ≤ x ∧ x ≤ 64
  | [], n, _, _, _, x, hx => by simp at hx
  | d :: r, n, h1, h2, h, x, hx => by
    simp only [entLoop] at h
    by_cases hc : d < 1 ∨ d > 64 / n
    · rw [if_pos hc] at h; omega
    · rw [if_neg hc] at h
      have h3 : ¬ n * d > 64 := fun g => hc (.inr ((entRef h1 (by omega)).2 g))
      have h4 : n * 1 ≤ n * d := Int.mul_le_mul_of_nonneg_left (by omega) (by omega)
      have h5 : 1 * d ≤ n * d := Int.mul_le_mul_of_nonneg_right h1 (by omega)
      rcases List.mem_cons.1 hx with rfl | hx
      · omega
      · exact entLoop_dims r (n * d) (by omega) (by omega) h x hx
theorem entries_dims {xs : List Int} (h : 0 < entries xs) : 1 ≤ xs.length ∧ xs.length ≤ 3 ∧ ∀ x ∈ xs, 1 ≤ x ∧ x ≤ 64 := by
  unfold entries at h
  by_cases hl : xs.length < 1 ∨ 3 < xs.length
  · rw [if_pos hl] at h; omega
  · rw [if_neg hl] at h
    exact ⟨by omega, by omega, entLoop_dims xs 1 (by omega) (by omega) h⟩
theorem kerLoop_dims : ∀ (xs : List Int) (n : Int), 0 < kerLoop n xs → ∀ x ∈ xs, 1 ≤ x ∧ x ≤ 64
  | [], _, _, x, hx => by simp at hx
  | d :: r, n, h, x, hx => by
    simp only [kerLoop] at h
    by_cases hc : d < 1 ∨ d > 64
    · rw [if_pos hc] at h; omega
    · rw [if_neg hc] at h
      rcases List.mem_cons.1 hx with rfl | hx
      · omega
      · exact kerLoop_dims r (n * d) h x hx
theorem kernel_dims {xs : List Int} (h : 0 < kernelI xs) : xs.length = 4 ∧ ∀ x ∈ xs, 1 ≤ x ∧ x ≤ 64 := by
  have h4 := kernel_len h
  unfold kernelI at h
  rw [if_pos h4] at h
  exact ⟨h4, kerLoop_dims xs 1 h⟩
theorem getD_mem {xs : List Int} {k : Nat} (h : k < xs.length) : xs.getD k 0 ∈ xs := by
  simp [List.getD, h]
theorem entries3 {a b c : Int} (ha : 1 ≤ a) (hb : 1 ≤ b) (hc : 1 ≤ c) (h : a * b * c ≤ 64) : 0 < entries [a, b, c] := by
  have e : entries [a, b, c] = entLoop 1 [a, b, c] := by unfold entries; rw [if_neg (by simp)]
  have h1 : 1 ≤ a * b := by have := Int.mul_le_mul ha hb (by omega) (by omega); omega
  have h2 : a * b * 1 ≤ a * b * c := Int.mul_le_mul_of_nonneg_left hc (by omega)
  have h3 : a * 1 ≤ a * b := Int.mul_le_mul_of_nonneg_left hb (by omega)
  have t1 : ¬ (a < 1 ∨ a > 64 / 1) := by
    rintro (g | g)
    · omega
    · have := (entRef (n := 1) (by omega) ha).1 g; omega
  have t2 : ¬ (b < 1 ∨ b > 64 / (1 * a)) := by
    rintro (g | g)
    · omega
    · have := (entRef (n := 1 * a) (by omega) hb).1 g; rw [Int.one_mul] at this; omega
  have t3 : ¬ (c < 1 ∨ c > 64 / (1 * a * b)) := by
    rintro (g | g)
    · omega
    · have := (entRef (n := 1 * a * b) (by rw [Int.one_mul]; omega) hc).1 g; rw [Int.one_mul] at this; omega
  rw [e]
  simp only [entLoop]
  rw [if_neg t1, if_neg t2, if_neg t3, Int.one_mul]
  omega
theorem entries3_prod {a b c : Int} (h : 0 < entries [a, b, c]) : 1 ≤ a ∧ 1 ≤ b ∧ 1 ≤ c ∧ a * b * c ≤ 64 := by
  have hd := (entries_dims h).2.2
  have ha := hd a (by simp)
  have hb := hd b (by simp)
  have hc := hd c (by simp)
  have e : entries [a, b, c] = entLoop 1 [a, b, c] := by unfold entries; rw [if_neg (by simp)]
  rw [e] at h
  simp only [entLoop] at h
  by_cases t1 : a < 1 ∨ a > 64 / 1
  · rw [if_pos t1] at h; omega
  rw [if_neg t1] at h
  by_cases t2 : b < 1 ∨ b > 64 / (1 * a)
  · rw [if_pos t2] at h; omega
  rw [if_neg t2] at h
  by_cases t3 : c < 1 ∨ c > 64 / (1 * a * b)
  · rw [if_pos t3] at h; omega
  have hab : 1 ≤ a * b := by have := Int.mul_le_mul ha.1 hb.1 (by omega) (by omega); omega
  have : ¬ (1 * a * b * c > 64) := fun g => t3 (.inr ((entRef (by rw [Int.one_mul]; exact hab) hc.1).2 g))
  rw [Int.one_mul] at this
  exact ⟨ha.1, hb.1, hc.1, by omega⟩
theorem entries1 {a : Int} (h1 : 1 ≤ a) (h2 : a ≤ 64) : 0 < entries [a] := by
  have e : entries [a] = entLoop 1 [a] := by unfold entries; rw [if_neg (by simp)]
  rw [e]
  simp only [entLoop]
  have t1 : ¬ (a < 1 ∨ a > 64 / 1) := by
    rintro (g | g)
    · omega
    · have := (entRef (n := 1) (by omega) h1).1 g; omega
  rw [if_neg t1]; omega

/-- the shape of a node of right form, with the shapes of those ahead; none: it does not go together with them -/
def shapeO (n : NodeV) (sh : List (List Int)) : Option (List Int) :=
  if n.kind = 1 ∨ n.kind = 2 then some n.shape.xs
  else if n.kind = 3 then (if (n.data.xs.length : Int) = n.bias.xs.length * entries (sh.getD n.a.toNat []) then some [(n.bias.xs.length : Int)] else none)
  else if n.kind = 4 then
    (if (sh.getD n.a.toNat []).length ≠ 3 ∨ (sh.getD n.a.toNat []).getD 0 0 ≠ n.shape.xs.getD 1 0 ∨ (sh.getD n.a.toNat []).getD 1 0 < n.shape.xs.getD 2 0 ∨ (sh.getD n.a.toNat []).getD 2 0 < n.shape.xs.getD 3 0 then none
     else if 0 < entries [n.shape.xs.getD 0 0, (sh.getD n.a.toNat []).getD 1 0 - n.shape.xs.getD 2 0 + 1, (sh.getD n.a.toNat []).getD 2 0 - n.shape.xs.getD 3 0 + 1] then some [n.shape.xs.getD 0 0, (sh.getD n.a.toNat []).getD 1 0 - n.shape.xs.getD 2 0 + 1, (sh.getD n.a.toNat []).getD 2 0 - n.shape.xs.getD 3 0 + 1] else none)
  else if n.kind = 5 then
    (if (sh.getD n.a.toNat []).length ≠ 3 ∨ (sh.getD n.a.toNat []).getD 1 0 % n.size ≠ 0 ∨ (sh.getD n.a.toNat []).getD 2 0 % n.size ≠ 0 then none
     else some [(sh.getD n.a.toNat []).getD 0 0, (sh.getD n.a.toNat []).getD 1 0 / n.size, (sh.getD n.a.toNat []).getD 2 0 / n.size])
  else if n.kind = 6 then (if sh.getD n.a.toNat [] = sh.getD n.b.toNat [] then some (sh.getD n.a.toNat []) else none)
  else if n.kind = 9 then (if entries n.shape.xs = entries (sh.getD n.a.toNat []) then some n.shape.xs else none)
  else some (sh.getD n.a.toNat [])

/-- what a node of right form has -/
structure Formed (n : NodeV) (at_ : Nat) : Prop where
  a : n.kind ≠ 1 → n.kind ≠ 2 → 0 ≤ n.a ∧ n.a < at_
  b : n.kind = 6 → 0 ≤ n.b ∧ n.b < at_
  own : n.kind = 1 ∨ n.kind = 2 ∨ n.kind = 9 → 0 < entries n.shape.xs
  bias : n.kind = 3 → 1 ≤ n.bias.xs.length ∧ n.bias.xs.length ≤ 64
  kern : n.kind = 4 → 0 < kernelI n.shape.xs
  pool : n.kind = 5 → 0 < n.size
  kind : 1 ≤ n.kind ∧ n.kind ≤ 9
theorem formed_of {n : NodeV} {at_ : Nat} (h : formB n at_ = true) : Formed n at_ := by
  unfold formB at h
  have hk : n.kind = 1 ∨ n.kind = 2 ∨ n.kind = 3 ∨ n.kind = 4 ∨ n.kind = 5 ∨ n.kind = 6 ∨ n.kind = 7 ∨ n.kind = 8 ∨ n.kind = 9 ∨ ¬ (n.kind = 1 ∨ n.kind = 2 ∨ n.kind = 3 ∨ n.kind = 4 ∨ n.kind = 5 ∨ n.kind = 6 ∨ n.kind = 7 ∨ n.kind = 8 ∨ n.kind = 9) := by omega
  rcases hk with hk | hk | hk | hk | hk | hk | hk | hk | hk | hk
  all_goals repeat (first | rw [if_pos (by omega)] at h | rw [if_neg (by omega)] at h)
  all_goals try simp only [Bool.and_eq_true, decide_eq_true_eq, aheadB] at h
  · exact ⟨by omega, by omega, by omega, by omega, by omega, by omega, by omega⟩
  · exact ⟨by omega, by omega, by omega, by omega, by omega, by omega, by omega⟩
  · exact ⟨by omega, by omega, by omega, by omega, by omega, by omega, by omega⟩
  · exact ⟨by omega, by omega, by omega, by omega, by omega, by omega, by omega⟩
  · exact ⟨by omega, by omega, by omega, by omega, by omega, by omega, by omega⟩
  · exact ⟨by omega, by omega, by omega, by omega, by omega, by omega, by omega⟩
  · exact ⟨by omega, by omega, by omega, by omega, by omega, by omega, by omega⟩
  · exact ⟨by omega, by omega, by omega, by omega, by omega, by omega, by omega⟩
  · exact ⟨by omega, by omega, by omega, by omega, by omega, by omega, by omega⟩
  · cases h

theorem getD_good {sh : List (List Int)} (hg : ∀ s ∈ sh, 0 < entries s) {i : Int} (h0 : 0 ≤ i) (h1 : i < sh.length) : 0 < entries (sh.getD i.toNat []) := by
  have hi : i.toNat < sh.length := by omega
  have : sh.getD i.toNat [] = sh[i.toNat] := by simp [List.getD, hi]
  rw [this]
  exact hg _ (List.getElem_mem hi)
theorem len3 {xs : List Int} (h : xs.length = 3) : xs = [xs.getD 0 0, xs.getD 1 0, xs.getD 2 0] := by
  match xs, h with
  | [a, b, c], _ => rfl
theorem shape_good {n : NodeV} {sh r : List (List Int)} {s : List Int} (hf : Formed n sh.length) (hg : ∀ s ∈ sh, 0 < entries s) (h : shapeO n sh = some s) (_hr : r = sh) : 0 < entries s := by
  unfold shapeO at h
  by_cases h12 : n.kind = 1 ∨ n.kind = 2
  · rw [if_pos h12] at h; cases h; exact hf.own (by omega)
  rw [if_neg h12] at h
  have ha := hf.a (by omega) (by omega)
  have hga := getD_good hg ha.1 ha.2
  by_cases h3 : n.kind = 3
  · rw [if_pos h3] at h
    split at h
    · cases h; have := hf.bias h3; exact entries1 (by omega) (by omega)
    · cases h
  rw [if_neg h3] at h
  by_cases h4 : n.kind = 4
  · rw [if_pos h4] at h
    split at h
    · cases h
    · split at h
      · cases h; assumption
      · cases h
  rw [if_neg h4] at h
  by_cases h5 : n.kind = 5
  · rw [if_pos h5] at h
    split at h
    · cases h
    · rename_i hn
      cases h
      have hs := hf.pool h5
      generalize sh.getD n.a.toNat [] = a at *
      have hl : a.length = 3 := by omega
      rw [len3 hl] at hga
      obtain ⟨p0, p1, p2, p3⟩ := entries3_prod hga
      have d1 : n.size ∣ a.getD 1 0 := Int.dvd_of_emod_eq_zero (by omega)
      have d2 : n.size ∣ a.getD 2 0 := Int.dvd_of_emod_eq_zero (by omega)
      have q1 : 1 ≤ a.getD 1 0 / n.size := by
        have := Int.ediv_mul_cancel d1
        have h0 : 0 ≤ a.getD 1 0 / n.size := Int.ediv_nonneg (by omega) (by omega)
        by_cases g : 0 < a.getD 1 0 / n.size
        · omega
        · have e : a.getD 1 0 / n.size = 0 := by omega
          rw [e] at this; omega
      have q2 : 1 ≤ a.getD 2 0 / n.size := by
        have := Int.ediv_mul_cancel d2
        have h0 : 0 ≤ a.getD 2 0 / n.size := Int.ediv_nonneg (by omega) (by omega)
        by_cases g : 0 < a.getD 2 0 / n.size
        · omega
        · have e : a.getD 2 0 / n.size = 0 := by omega
          rw [e] at this; omega
      have l1 : a.getD 1 0 / n.size ≤ a.getD 1 0 := Int.ediv_le_self _ (by omega)
      have l2 : a.getD 2 0 / n.size ≤ a.getD 2 0 := Int.ediv_le_self _ (by omega)
      have m1 : a.getD 0 0 * (a.getD 1 0 / n.size) ≤ a.getD 0 0 * a.getD 1 0 := Int.mul_le_mul_of_nonneg_left l1 (by omega)
      have m0 : 0 ≤ a.getD 0 0 * a.getD 1 0 := Int.mul_nonneg (by omega) (by omega)
      have m2 : a.getD 0 0 * (a.getD 1 0 / n.size) * (a.getD 2 0 / n.size) ≤ a.getD 0 0 * a.getD 1 0 * a.getD 2 0 := Int.mul_le_mul m1 l2 (by omega) m0
      exact entries3 p0 q1 q2 (by omega)
  rw [if_neg h5] at h
  by_cases h6 : n.kind = 6
  · rw [if_pos h6] at h
    split at h
    · cases h; exact hga
    · cases h
  rw [if_neg h6] at h
  by_cases h9 : n.kind = 9
  · rw [if_pos h9] at h
    split at h
    · cases h; exact hf.own (by omega)
    · cases h
  rw [if_neg h9] at h
  cases h; exact hga
end Go.Proofs.Ytajbngkcgbehlaa
