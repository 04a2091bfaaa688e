import Derived.Test.YtlcikmddmcdeeaaRO
namespace Go.Proofs.Ytlcikmddmcdeeaa
open Go.SX Go.RowKit
/-! bytes -/
structure BytesV where
  base : Option Addr
  cap : Nat
  bs : List Int
def bytesR (l : List Int) : List (List Value) := l.map fun x => [Value.int .u8 x]
theorem bytesR_length (l : List Int) : (bytesR l).length = l.length := by simp [bytesR]
theorem bytesR_get {l : List Int} {k : Nat} (h : k < l.length) : (bytesR l)[k]? = some [.int .u8 l[k]] := by simp [bytesR, h]
def BytesV.val (v : BytesV) : Value := .slice v.base v.bs.length v.cap
structure BytesV.raw (w : World) (v : BytesV) : Prop where
  rows : RowsI w v.base 1 (bytesR v.bs)
  fits : ∀ x ∈ v.bs, 0 ≤ x ∧ x ≤ 255
/-! the chain -/
def chainOp (b : Int) : Int := if b % 5 = 0 then 3 else if b % 5 = 1 then 5 else if b % 5 = 2 then 8 else if b % 5 = 3 then 9 else 6
def chainI (b : Int) (n : Nat) : InstrV := ⟨chainOp b, (n + 1 : Nat), n, if b % 5 = 0 ∨ b % 5 = 4 then n else 0, 0⟩
def chainTo (bs : List Int) : Nat → List InstrV
  | 0 => [⟨1, 0, 0, 0, 0⟩]
  | i + 1 => chainTo bs i ++ [chainI (bs.getD i 0) i]
theorem chainTo_length (bs : List Int) : ∀ i, (chainTo bs i).length = i + 1
  | 0 => rfl
  | i + 1 => by unfold chainTo; rw [List.length_append, chainTo_length bs i]; rfl
theorem chainTo_get {bs : List Int} : ∀ {n j : Nat} {x : InstrV}, (chainTo bs n)[j]? = some x → (j = 0 ∧ x = ⟨1, 0, 0, 0, 0⟩) ∨ ∃ i, j = i + 1 ∧ x = chainI (bs.getD i 0) i
  | 0, j, x, h => by
    rcases j with _ | j
    · cases h; exact .inl ⟨rfl, rfl⟩
    · simp [chainTo] at h
  | n + 1, j, x, h => by
    unfold chainTo at h
    rcases Nat.lt_or_ge j (n + 1) with hj | hj
    · rw [List.getElem?_append_left (by rw [chainTo_length]; exact hj)] at h
      exact chainTo_get h
    · rw [List.getElem?_append_right (by rw [chainTo_length]; exact hj), chainTo_length] at h
      have : j - (n + 1) = 0 := by
        have := (List.getElem?_eq_some_iff.1 h).1
        simp at this; omega
      rw [this] at h
      cases h
      exact .inr ⟨n, by omega, rfl⟩
theorem chainOp_takes (b : Int) : (takesN (chainOp b) = 2 ∧ (b % 5 = 0 ∨ b % 5 = 4)) ∨ (takesN (chainOp b) = 1 ∧ ¬ (b % 5 = 0 ∨ b % 5 = 4)) := by
  have h0 := Int.emod_nonneg b (show (5 : Int) ≠ 0 by decide)
  have h1 := Int.emod_lt_of_pos b (show (0 : Int) < 5 by decide)
  have : b % 5 = 0 ∨ b % 5 = 1 ∨ b % 5 = 2 ∨ b % 5 = 3 ∨ b % 5 = 4 := by omega
  unfold chainOp
  rcases this with h | h | h | h | h <;> rw [h] <;> decide
theorem chainI_good (b : Int) (n : Nat) : goodAt (n + 1) (chainI b n) := by
  have ha : (chainI b n).a = (n : Int) := rfl
  have ho : takesN (chainI b n).op = takesN (chainOp b) := rfl
  have hb : (chainI b n).b = if b % 5 = 0 ∨ b % 5 = 4 then (n : Int) else 0 := rfl
  unfold goodAt
  rw [ha, ho, hb]
  rcases chainOp_takes b with ⟨h1, h2⟩ | ⟨h1, h2⟩
  · rw [h1, if_pos h2]; exact ⟨rfl, by omega, by omega, by omega, by omega, by omega⟩
  · rw [h1, if_neg h2]; exact ⟨rfl, by omega, by omega, by omega, by omega, by omega⟩
theorem chainI_taken {b : Int} {n : Nat} {k : Int} (h : k ∈ takenL (chainI b n)) : k = n := by
  rcases takenL_of (chainI b n) with ⟨hn, ht⟩ | ⟨hn, ht⟩ | ⟨hn, ht⟩ | ⟨hn, ht⟩ <;> rw [ht] at h
  · simp at h
  · simp at h
  · simpa [chainI] using h
  · rcases chainOp_takes b with ⟨h1, h2⟩ | ⟨h1, h2⟩
    · simp only [chainI, if_pos h2] at h; simpa using h
    · have hn : takesN (chainOp b) = 2 := hn
      omega
theorem chain_straight {bs : List Int} {n : Nat} (hn : n ≤ 1000) : Straight (chainTo bs n) := by
  refine ⟨by rw [chainTo_length]; omega, by rw [chainTo_length]; omega, fun j x hj hx => ?_⟩
  rcases chainTo_get hx with ⟨rfl, rfl⟩ | ⟨i, rfl, rfl⟩
  · unfold goodAt; decide
  · exact chainI_good _ _
theorem chain_live {bs : List Int} {n i : Nat} (hi : i < (chainTo bs n).length) : live (chainTo bs n) i = 0 := by
  unfold live
  rw [List.filter_eq_nil_iff.2 fun k hk => ?_]
  · rfl
  have hki := List.mem_range.1 hk
  have : need (chainTo bs n) k (i + 1) = 0 := by
    unfold need
    rw [if_neg (by omega)]
    have : (k : Int) ∉ ((chainTo bs n).drop (i + 1)).flatMap takenL := by
      intro hm
      obtain ⟨y, hy, hky⟩ := List.mem_flatMap.1 hm
      obtain ⟨j, hj⟩ := List.getElem?_of_mem hy
      rw [List.getElem?_drop] at hj
      rcases chainTo_get hj with ⟨h, _⟩ | ⟨i', h, rfl⟩
      · omega
      · have := chainI_taken hky; omega
    rw [List.count_eq_zero.2 this]
  rw [this]; decide
theorem chain_fits {bs : List Int} {n : Nat} (hn : n ≤ 1000) : ∀ x ∈ chainTo bs n, x.fits := by
  intro x hx
  obtain ⟨j, hj⟩ := List.getElem?_of_mem hx
  have hjl := (List.getElem?_eq_some_iff.1 hj).1
  rw [chainTo_length] at hjl
  rcases chainTo_get hj with ⟨_, rfl⟩ | ⟨i, rfl, rfl⟩
  · exact ⟨⟨by decide, by decide⟩, ⟨by decide, by decide⟩, ⟨by decide, by decide⟩, ⟨by decide, by decide⟩, ⟨by decide, by decide⟩⟩
  · have hop : 0 ≤ chainOp (bs.getD i 0) ∧ chainOp (bs.getD i 0) ≤ 9 := by
      unfold chainOp; repeat (split; decide)
      decide
    refine ⟨⟨?_, ?_⟩, ⟨?_, ?_⟩, ⟨?_, ?_⟩, ⟨?_, ?_⟩, ⟨by show _ ≤ (0 : Int); decide, by show (0 : Int) ≤ _; decide⟩⟩
    all_goals simp only [chainI]
    all_goals first | omega | (split <;> omega)
theorem rem_lit {x y z : Int} {K : Int → Prop} (h0 : 0 ≤ x) (hy : y ≠ 0) (e : x % y = z) (h : K z) : remK x y K := rem_pos h0 hy (by rw [e]; exact h)
end Go.Proofs.Ytlcikmddmcdeeaa
