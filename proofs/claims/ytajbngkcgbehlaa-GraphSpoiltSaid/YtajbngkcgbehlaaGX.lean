import Derived.Test.YtajbngkcgbehlaaGW
namespace Go.Proofs.Ytajbngkcgbehlaa
open Go.SX Go.RowKit
/-! Plain: made nodes may be -/
structure GoodNode (n : NodeV) (sh : List (List Int)) : Prop where
  form : formB n sh.length = true
  shape : ∃ s, shapeO n sh = some s ∧ ShOk s
  near : nearB n = true
  made : Made n
theorem near_small {xs : List Int} (h : smallL xs) : nearL xs = true := by
  unfold nearL
  rw [List.all_eq_true]
  intro x hx
  have := h x hx
  exact decide_eq_true ⟨by omega, by omega⟩
theorem smallL_nil : smallL nilI.xs := fun x hx => by simp [nilI] at hx
theorem near_of {n : NodeV} (hd : smallL n.data.xs) (hb : smallL n.bias.xs) (hl : -4 ≤ n.lo ∧ n.lo ≤ n.hi ∧ n.hi ≤ 9) : nearB n = true := by
  unfold nearB
  rw [near_small hd, near_small hb, decide_eq_true hl.2.1]
  have : nearL [n.lo, n.hi] = true := by
    unfold nearL
    rw [List.all_eq_true]
    intro x hx
    simp only [List.mem_cons, List.not_mem_nil, or_false] at hx
    exact decide_eq_true (by rcases hx with rfl | rfl <;> omega)
  rw [this]; rfl
theorem good_input {n : NodeV} {sh : List (List Int)} (h : IsInput n) : GoodNode n sh := by
  refine ⟨?_, ⟨n.shape.xs, ?_, h.shape⟩, near_of (by rw [h.data]; exact smallL_nil) (by rw [h.bias]; exact smallL_nil) ⟨h.lo.1, h.hi.1, h.hi.2⟩, h.made⟩
  · unfold formB
    rw [if_pos h.kind]
    unfold lacksB
    have := h.shape.pos
    simp [h.a, h.b, h.size, h.data, h.bias, nilI, this]
  · unfold shapeO
    rw [if_pos (.inl h.kind)]
section
variable {sh : List (List Int)} {u d e : IntsV} {i j : Nat} {s : List Int}
theorem z_of {k : Int} (h : -100 ≤ k ∧ k ≤ 10000) : i64 k := ⟨by omega, by omega⟩
theorem small64 {s : List Int} (h : ShOk s) : s.length ≤ 3 := (entries_dims h.pos).2.1
theorem good_const (hu : u.sane) (hs : ShOk u.xs) (hd : d.sane) (hdl : (d.xs.length : Int) = entries u.xs) (hsm : smallL d.xs) : GoodNode ⟨2, 0, 0, u, 0, 0, 0, d, nilI⟩ sh := by
  have h1 := hs.pos
  have h2 := hs.few
  have h3 := small64 hs
  refine ⟨?_, ⟨u.xs, ?_, hs⟩, near_of hsm smallL_nil ⟨by simp, by simp, by simp⟩, ⟨hu, hd, nilI_sane, by simp only; omega, by simp only; omega, by simp [nilI], z_of (by simp), z0, z0, z0, z0, z0⟩⟩
  · unfold formB lacksB
    simp [nilI, h1, hdl]
  · unfold shapeO
    simp
theorem good_dense (hi : i < sh.length) (hg : sh.getD i [] = s) (hs : ShOk s) (hd : d.sane) (he : e.sane) (ho : 1 ≤ e.xs.length ∧ e.xs.length ≤ 4) (hdl : (d.xs.length : Int) = e.xs.length * entries s) (h1 : smallL d.xs) (h2 : smallL e.xs) (h24 : sh.length ≤ 24) : GoodNode ⟨3, i, 0, nilI, 0, 0, 0, d, e⟩ sh := by
  have h3 := hs.pos
  have h4 := hs.few
  have hm : (e.xs.length : Int) * entries s ≤ 4 * 18 := Int.mul_le_mul (by omega) h4 (by omega) (by omega)
  have hg' : sh.getD ((i : Int)).toNat [] = s := hg
  refine ⟨?_, ⟨[(e.xs.length : Int)], ?_, ⟨entries1 (by omega) (by omega), ?_, fun h => by simp at h⟩⟩, near_of h1 h2 ⟨by simp, by simp, by simp⟩, ⟨nilI_sane, hd, he, by simp [nilI], by simp only; omega, by simp only; omega, z_of (by simp), z_of (by simp only; omega), z0, z0, z0, z0⟩⟩
  · unfold formB lacksB aheadB
    simp [nilI, hi]
    omega
  · unfold shapeO
    simp only [hg', hdl]
    simp
  · have : entries [(e.xs.length : Int)] = e.xs.length ∨ entries [(e.xs.length : Int)] = 0 := by
      unfold entries
      rw [if_neg (by simp)]
      simp only [entLoop]
      split
      · exact .inr rfl
      · left; omega
    omega
theorem good_add (hi : i < sh.length) (hj : j < sh.length) (hg : sh.getD i [] = s) (hg2 : sh.getD j [] = s) (hs : ShOk s) (h24 : sh.length ≤ 24) : GoodNode ⟨6, i, j, nilI, 0, 0, 0, nilI, nilI⟩ sh := by
  have hg' : sh.getD ((i : Int)).toNat [] = s := hg
  have hg2' : sh.getD ((j : Int)).toNat [] = s := hg2
  refine ⟨?_, ⟨s, ?_, hs⟩, near_of smallL_nil smallL_nil ⟨by simp, by simp, by simp⟩, ⟨nilI_sane, nilI_sane, nilI_sane, by simp [nilI], by simp [nilI], by simp [nilI], z_of (by simp), z_of (by simp only; omega), z_of (by simp only; omega), z0, z0, z0⟩⟩
  · unfold formB lacksB aheadB
    simp [nilI, hi, hj]
  · unfold shapeO
    simp only [hg', hg2']
    simp
theorem good_power (hi : i < sh.length) (hg : sh.getD i [] = s) (hs : ShOk s) (hd : d.sane) (hl : d.xs.length = 3) (h1 : smallL d.xs) (h24 : sh.length ≤ 24) : GoodNode ⟨8, i, 0, nilI, 0, 0, 0, d, nilI⟩ sh := by
  have hg' : sh.getD ((i : Int)).toNat [] = s := hg
  refine ⟨?_, ⟨s, ?_, hs⟩, near_of h1 smallL_nil ⟨by simp, by simp, by simp⟩, ⟨nilI_sane, hd, nilI_sane, by simp [nilI], by simp only; omega, by simp [nilI], z_of (by simp), z_of (by simp only; omega), z0, z0, z0, z0⟩⟩
  · unfold formB lacksB aheadB
    simp [nilI, hi, hl]
  · unfold shapeO
    simp only [hg']
    simp
theorem good_scale (hi : i < sh.length) (hg : sh.getD i [] = s) (hs : ShOk s) (hd : d.sane) (hl : d.xs.length = 1) (h1 : smallL d.xs) (h24 : sh.length ≤ 24) : GoodNode ⟨7, i, 0, nilI, 0, 0, 0, d, nilI⟩ sh := by
  have hg' : sh.getD ((i : Int)).toNat [] = s := hg
  refine ⟨?_, ⟨s, ?_, hs⟩, near_of h1 smallL_nil ⟨by simp, by simp, by simp⟩, ⟨nilI_sane, hd, nilI_sane, by simp [nilI], by simp only; omega, by simp [nilI], z_of (by simp), z_of (by simp only; omega), z0, z0, z0, z0⟩⟩
  · unfold formB lacksB aheadB
    simp [nilI, hi, hl]
  · unfold shapeO
    simp only [hg']
    simp
theorem entries_one {n : Int} (h1 : 1 ≤ n) (h2 : n ≤ 64) : entries [n] = n := by
  unfold entries
  rw [if_neg (by simp)]
  simp only [entLoop]
  rw [if_neg (by omega)]
  omega
theorem good_flat (hi : i < sh.length) (hg : sh.getD i [] = s) (hs : ShOk s) (hu : u.sane) (hx : u.xs = [entries s]) (h24 : sh.length ≤ 24) : GoodNode ⟨9, i, 0, u, 0, 0, 0, nilI, nilI⟩ sh := by
  have h3 := hs.pos
  have h4 := hs.few
  have hg' : sh.getD ((i : Int)).toNat [] = s := hg
  have h5 := entries_one (n := entries s) (by omega) (by omega)
  refine ⟨?_, ⟨[entries s], ?_, ⟨by omega, by omega, fun h => by simp at h⟩⟩, near_of smallL_nil smallL_nil ⟨by simp, by simp, by simp⟩, ⟨hu, nilI_sane, nilI_sane, by simp only [hx]; simp, by simp [nilI], by simp [nilI], z_of (by simp), z_of (by simp only; omega), z0, z0, z0, z0⟩⟩
  · unfold formB lacksB aheadB
    simp [nilI, hi, hx, h5, h3]
  · unfold shapeO
    simp only [hg', hx, h5]
    simp

theorem entries3_val {a b c : Int} (h : 0 < entries [a, b, c]) : entries [a, b, c] = a * b * c := by
  have e : entries [a, b, c] = entLoop 1 [a, b, c] := by unfold entries; rw [if_neg (by simp)]
  rw [e] at h ⊢
  simp only [entLoop] at h ⊢
  by_cases t1 : a < 1 ∨ a > 64 / 1
  · rw [if_pos t1] at h; omega
  rw [if_neg t1] at h ⊢
  by_cases t2 : b < 1 ∨ b > 64 / (1 * a)
  · rw [if_pos t2] at h; omega
  rw [if_neg t2] at h ⊢
  by_cases t3 : c < 1 ∨ c > 64 / (1 * a * b)
  · rw [if_pos t3] at h; omega
  rw [if_neg t3, Int.one_mul]
theorem shok3 {a b c : Int} (ha : 1 ≤ a ∧ a ≤ 2) (hb : 1 ≤ b) (hc : 1 ≤ c) (hbc : b * c ≤ 9) : ShOk [a, b, c] := by
  have h0 : 1 ≤ b * c := by have := Int.mul_le_mul hb hc (by omega) (by omega); omega
  have h1 : a * (b * c) ≤ 2 * 9 := Int.mul_le_mul ha.2 hbc (by omega) (by omega)
  rw [← Int.mul_assoc] at h1
  have h2 := entries3 ha.1 hb hc (by omega)
  exact ⟨h2, by rw [entries3_val h2]; omega, fun _ => ⟨by simpa using ha.2, by simpa using hbc⟩⟩
theorem dims3 {s : List Int} (hs : ShOk s) (h3 : s.length = 3) : s = [s.getD 0 0, s.getD 1 0, s.getD 2 0] ∧ 1 ≤ s.getD 0 0 ∧ s.getD 0 0 ≤ 2 ∧ 1 ≤ s.getD 1 0 ∧ 1 ≤ s.getD 2 0 ∧ s.getD 1 0 * s.getD 2 0 ≤ 9 ∧ s.getD 1 0 ≤ 9 ∧ s.getD 2 0 ≤ 9 := by
  have e := len3 h3
  have hp := hs.pos
  rw [e] at hp
  obtain ⟨p0, p1, p2, _⟩ := entries3_prod hp
  obtain ⟨q1, q2⟩ := hs.three h3
  have r1 : s.getD 1 0 * 1 ≤ s.getD 1 0 * s.getD 2 0 := Int.mul_le_mul_of_nonneg_left p2 (by omega)
  have r2 : 1 * s.getD 2 0 ≤ s.getD 1 0 * s.getD 2 0 := Int.mul_le_mul_of_nonneg_right p1 (by omega)
  exact ⟨e, p0, q1, p1, p2, q2, by omega, by omega⟩
theorem good_pool (hi : i < sh.length) (hg : sh.getD i [] = s) (hs : ShOk s) (h3 : s.length = 3) (he1 : s.getD 1 0 % 2 = 0) (he2 : s.getD 2 0 % 2 = 0) (h24 : sh.length ≤ 24) : GoodNode ⟨5, i, 0, nilI, 0, 0, 2, nilI, nilI⟩ sh := by
  have hg' : sh.getD ((i : Int)).toNat [] = s := hg
  obtain ⟨_, p0, q0, p1, p2, q2, _, _⟩ := dims3 hs h3
  have m : s.getD 1 0 / 2 * (s.getD 2 0 / 2) ≤ s.getD 1 0 * s.getD 2 0 := Int.mul_le_mul (by omega) (by omega) (by omega) (by omega)
  refine ⟨?_, ⟨[s.getD 0 0, s.getD 1 0 / 2, s.getD 2 0 / 2], ?_, shok3 ⟨p0, q0⟩ (by omega) (by omega) (by omega)⟩, near_of smallL_nil smallL_nil ⟨by simp, by simp, by simp⟩, ⟨nilI_sane, nilI_sane, nilI_sane, by simp [nilI], by simp [nilI], by simp [nilI], z_of (by simp), z_of (by simp only; omega), z0, z0, z0, z_of (by simp)⟩⟩
  · unfold formB lacksB aheadB
    simp [nilI, hi]
  · unfold shapeO
    simp only [hg']
    rw [if_neg (by simp), if_neg (by simp), if_neg (by simp), if_pos trivial, if_neg (by omega)]
theorem kernel4 {a b c e : Int} (ha : 1 ≤ a ∧ a ≤ 64) (hb : 1 ≤ b ∧ b ≤ 64) (hc : 1 ≤ c ∧ c ≤ 64) (he : 1 ≤ e ∧ e ≤ 64) : kernelI [a, b, c, e] = a * b * c * e := by
  unfold kernelI
  rw [if_pos (by simp)]
  simp only [kerLoop]
  rw [if_neg (by omega), if_neg (by omega), if_neg (by omega), if_neg (by omega), Int.one_mul]
theorem good_conv {k0 k2 k3 : Int} (hi : i < sh.length) (hg : sh.getD i [] = s) (hs : ShOk s) (h3 : s.length = 3) (h0 : 1 ≤ k0 ∧ k0 ≤ 2) (h2 : 1 ≤ k2 ∧ k2 ≤ 2 ∧ k2 ≤ s.getD 1 0) (hk3 : 1 ≤ k3 ∧ k3 ≤ 2 ∧ k3 ≤ s.getD 2 0) (hu : u.sane) (hx : u.xs = [k0, s.getD 0 0, k2, k3]) (hd : d.sane) (he : e.sane)
    (hdl : (d.xs.length : Int) = k0 * s.getD 0 0 * k2 * k3) (hel : (e.xs.length : Int) = k0) (h1 : smallL d.xs) (hh : smallL e.xs) (h24 : sh.length ≤ 24) : GoodNode ⟨4, i, 0, u, 0, 0, 0, d, e⟩ sh := by
  have hg' : sh.getD ((i : Int)).toNat [] = s := hg
  obtain ⟨_, p0, q0, p1, p2, q2, q3, q4⟩ := dims3 hs h3
  have hk := kernel4 (a := k0) (b := s.getD 0 0) (c := k2) (e := k3) (by omega) (by omega) (by omega) (by omega)
  have m1 : k0 * s.getD 0 0 ≤ 2 * 2 := Int.mul_le_mul h0.2 q0 (by omega) (by omega)
  have n1 : 1 * 1 ≤ k0 * s.getD 0 0 := Int.mul_le_mul h0.1 p0 (by omega) (by omega)
  have m2 : k0 * s.getD 0 0 * k2 ≤ 4 * 2 := Int.mul_le_mul m1 h2.2.1 (by omega) (by omega)
  have n2 : 1 * 1 ≤ k0 * s.getD 0 0 * k2 := Int.mul_le_mul n1 h2.1 (by omega) (by omega)
  have m3 : k0 * s.getD 0 0 * k2 * k3 ≤ 8 * 2 := Int.mul_le_mul m2 hk3.2.1 (by omega) (by omega)
  have n3 : 1 * 1 ≤ k0 * s.getD 0 0 * k2 * k3 := Int.mul_le_mul n2 hk3.1 (by omega) (by omega)
  have m : (s.getD 1 0 - k2 + 1) * (s.getD 2 0 - k3 + 1) ≤ s.getD 1 0 * s.getD 2 0 := Int.mul_le_mul (by omega) (by omega) (by omega) (by omega)
  have hok := shok3 (a := k0) (b := s.getD 1 0 - k2 + 1) (c := s.getD 2 0 - k3 + 1) h0 (by omega) (by omega) (by omega)
  refine ⟨?_, ⟨[k0, s.getD 1 0 - k2 + 1, s.getD 2 0 - k3 + 1], ?_, hok⟩, near_of h1 hh ⟨by simp, by simp, by simp⟩, ⟨hu, hd, he, by simp only [hx]; simp, by simp only; omega, by simp only; omega, z_of (by simp), z_of (by simp only; omega), z0, z0, z0, z0⟩⟩
  · unfold formB
    rw [if_neg (by simp), if_neg (by simp), if_neg (by simp), if_pos rfl]
    unfold lacksB aheadB
    simp only [hx, hk, hdl, hel]
    generalize k0 * s.getD 0 0 * k2 * k3 = K at *
    have hK : 0 < K := by omega
    simp [hi, hK]
  · unfold shapeO
    simp only [hg', hx]
    rw [if_neg (by simp), if_neg (by simp), if_pos trivial]
    simp only [List.getD_cons_zero, List.getD_cons_succ]
    rw [if_neg (by omega), if_pos hok.pos]
end
end Go.Proofs.Ytajbngkcgbehlaa
