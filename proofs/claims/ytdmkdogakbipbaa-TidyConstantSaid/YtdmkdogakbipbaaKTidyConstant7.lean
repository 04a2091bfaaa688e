import Derived.DeepKeys
import Derived.Test.YtdmkdogakbipbaaKTidyConstant6
/- GX -/
namespace Go.Proofs.Ytdmkdogakbipbaa
open Go.SX Go.RowKit
structure GoodNode (n : NodeV) (sh : List (List Int)) : Prop where
  form : formB n sh.length = true
  shape : ∃ s, shapeO n sh = some s ∧ ShOk s
  near : nearB n = true
  made : Made n
theorem near_small {xs : List Int} (h : smallL xs) : nearL xs = true := by
  unfold nearL
  rw [List.all_eq_true]
  intro x hx
  have := h x hx
  exact decide_eq_true ⟨by omega, by omega⟩
theorem smallL_nil : smallL nilI.xs := fun x hx => by simp [nilI] at hx
theorem near_of {n : NodeV} (hd : smallL n.data.xs) (hb : smallL n.bias.xs) (hl : -4 ≤ n.lo ∧ n.lo ≤ n.hi ∧ n.hi ≤ 9) : nearB n = true := by
  unfold nearB
  rw [near_small hd, near_small hb, decide_eq_true hl.2.1]
  have : nearL [n.lo, n.hi] = true := by
    unfold nearL
    rw [List.all_eq_true]
    intro x hx
    simp only [List.mem_cons, List.not_mem_nil, or_false] at hx
    exact decide_eq_true (by rcases hx with rfl | rfl <;> omega)
  rw [this]; rfl
theorem good_input {n : NodeV} {sh : List (List Int)} (h : IsInput n) : GoodNode n sh := by
  refine ⟨?_, ⟨n.shape.xs, ?_, h.shape⟩, near_of (by rw [h.data]; exact smallL_nil) (by rw [h.bias]; exact smallL_nil) ⟨h.lo.1, h.hi.1, h.hi.2⟩, h.made⟩
  · unfold formB
    rw [if_pos h.kind]
    unfold lacksB
    have := h.shape.pos
    simp [h.a, h.b, h.size, h.data, h.bias, nilI, this]
  · unfold shapeO
    rw [if_pos (.inl h.kind)]
section
variable {sh : List (List Int)} {u d e : IntsV} {i j : Nat} {s : List Int}
theorem z_of {k : Int} (h : -100 ≤ k ∧ k ≤ 10000) : i64 k := ⟨by omega, by omega⟩
theorem small64 {s : List Int} (h : ShOk s) : s.length ≤ 3 := (entries_dims h.pos).2.1
theorem good_const (hu : u.sane) (hs : ShOk u.xs) (hd : d.sane) (hdl : (d.xs.length : Int) = entries u.xs) (hsm : smallL d.xs) : GoodNode ⟨2, 0, 0, u, 0, 0, 0, d, nilI⟩ sh := by
  have h1 := hs.pos
  have h2 := hs.few
  have h3 := small64 hs
  refine ⟨?_, ⟨u.xs, ?_, hs⟩, near_of hsm smallL_nil ⟨by simp, by simp, by simp⟩, ⟨hu, hd, nilI_sane, by simp only; omega, by simp only; omega, by simp [nilI], z_of (by simp), z0, z0, z0, z0, z0⟩⟩
  · unfold formB lacksB
    simp [nilI, h1, hdl]
  · unfold shapeO
    simp
theorem good_dense (hi : i < sh.length) (hg : sh.getD i [] = s) (hs : ShOk s) (hd : d.sane) (he : e.sane) (ho : 1 ≤ e.xs.length ∧ e.xs.length ≤ 4) (hdl : (d.xs.length : Int) = e.xs.length * entries s) (h1 : smallL d.xs) (h2 : smallL e.xs) (h24 : sh.length ≤ 24) : GoodNode ⟨3, i, 0, nilI, 0, 0, 0, d, e⟩ sh := by
  have h3 := hs.pos
  have h4 := hs.few
  have hm : (e.xs.length : Int) * entries s ≤ 4 * 18 := Int.mul_le_mul (by omega) h4 (by omega) (by omega)
  have hg' : sh.getD ((i : Int)).toNat [] = s := hg
  refine ⟨?_, ⟨[(e.xs.length : Int)], ?_, ⟨entries1 (by omega) (by omega), ?_, fun h => by simp at h⟩⟩, near_of h1 h2 ⟨by simp, by simp, by simp⟩, ⟨nilI_sane, hd, he, by simp [nilI], by simp only; omega, by simp only; omega, z_of (by simp), z_of (by simp only; omega), z0, z0, z0, z0⟩⟩
  · unfold formB lacksB aheadB
    simp [nilI, hi]
    omega
  · unfold shapeO
    simp only [hg', hdl]
    simp
  · have : entries [(e.xs.length : Int)] = e.xs.length ∨ entries [(e.xs.length : Int)] = 0 := by
      unfold entries
      rw [if_neg (by simp)]
      simp only [entLoop]
      split
      · exact .inr rfl
      · left; omega
    omega
theorem good_add (hi : i < sh.length) (hj : j < sh.length) (hg : sh.getD i [] = s) (hg2 : sh.getD j [] = s) (hs : ShOk s) (h24 : sh.length ≤ 24) : GoodNode ⟨6, i, j, nilI, 0, 0, 0, nilI, nilI⟩ sh := by
  have hg' : sh.getD ((i : Int)).toNat [] = s := hg
  have hg2' : sh.getD ((j : Int)).toNat [] = s := hg2
  refine ⟨?_, ⟨s, ?_, hs⟩, near_of smallL_nil smallL_nil ⟨by simp, by simp, by simp⟩, ⟨nilI_sane, nilI_sane, nilI_sane, by simp [nilI], by simp [nilI], by simp [nilI], z_of (by simp), z_of (by simp only; omega), z_of (by simp only; omega), z0, z0, z0⟩⟩
  · unfold formB lacksB aheadB
    simp [nilI, hi, hj]
  · unfold shapeO
    simp only [hg', hg2']
    simp
theorem good_power (hi : i < sh.length) (hg : sh.getD i [] = s) (hs : ShOk s) (hd : d.sane) (hl : d.xs.length = 3) (h1 : smallL d.xs) (h24 : sh.length ≤ 24) : GoodNode ⟨8, i, 0, nilI, 0, 0, 0, d, nilI⟩ sh := by
  have hg' : sh.getD ((i : Int)).toNat [] = s := hg
  refine ⟨?_, ⟨s, ?_, hs⟩, near_of h1 smallL_nil ⟨by simp, by simp, by simp⟩, ⟨nilI_sane, hd, nilI_sane, by simp [nilI], by simp only; omega, by simp [nilI], z_of (by simp), z_of (by simp only; omega), z0, z0, z0, z0⟩⟩
  · unfold formB lacksB aheadB
    simp [nilI, hi, hl]
  · unfold shapeO
    simp only [hg']
    simp
theorem good_scale (hi : i < sh.length) (hg : sh.getD i [] = s) (hs : ShOk s) (hd : d.sane) (hl : d.xs.length = 1) (h1 : smallL d.xs) (h24 : sh.length ≤ 24) : GoodNode ⟨7, i, 0, nilI, 0, 0, 0, d, nilI⟩ sh := by
  have hg' : sh.getD ((i : Int)).toNat [] = s := hg
  refine ⟨?_, ⟨s, ?_, hs⟩, near_of h1 smallL_nil ⟨by simp, by simp, by simp⟩, ⟨nilI_sane, hd, nilI_sane, by simp [nilI], by simp only; omega, by simp [nilI], z_of (by simp), z_of (by simp only; omega), z0, z0, z0, z0⟩⟩
  · unfold formB lacksB aheadB
    simp [nilI, hi, hl]
  · unfold shapeO
    simp only [hg']
    simp
theorem entries_one {n : Int} (h1 : 1 ≤ n) (h2 : n ≤ 64) : entries [n] = n := by
  unfold entries
  rw [if_neg (by simp)]
  simp only [entLoop]
  rw [if_neg (by omega)]
  omega
theorem good_flat (hi : i < sh.length) (hg : sh.getD i [] = s) (hs : ShOk s) (hu : u.sane) (hx : u.xs = [entries s]) (h24 : sh.length ≤ 24) : GoodNode ⟨9, i, 0, u, 0, 0, 0, nilI, nilI⟩ sh := by
  have h3 := hs.pos
  have h4 := hs.few
  have hg' : sh.getD ((i : Int)).toNat [] = s := hg
  have h5 := entries_one (n := entries s) (by omega) (by omega)
  refine ⟨?_, ⟨[entries s], ?_, ⟨by omega, by omega, fun h => by simp at h⟩⟩, near_of smallL_nil smallL_nil ⟨by simp, by simp, by simp⟩, ⟨hu, nilI_sane, nilI_sane, by simp only [hx]; simp, by simp [nilI], by simp [nilI], z_of (by simp), z_of (by simp only; omega), z0, z0, z0, z0⟩⟩
  · unfold formB lacksB aheadB
    simp [nilI, hi, hx, h5, h3]
  · unfold shapeO
    simp only [hg', hx, h5]
    simp

theorem entries3_val {a b c : Int} (h : 0 < entries [a, b, c]) : entries [a, b, c] = a * b * c := by
  have e : entries [a, b, c] = entLoop 1 [a, b, c] := by unfold entries; rw [if_neg (by simp)]
  rw [e] at h ⊢
  simp only [entLoop] at h ⊢
  by_cases t1 : a < 1 ∨ a > 64 / 1
  · rw [if_pos t1] at h; omega
  rw [if_neg t1] at h ⊢
  by_cases t2 : b < 1 ∨ b > 64 / (1 * a)
  · rw [if_pos t2] at h; omega
  rw [if_neg t2] at h ⊢
  by_cases t3 : c < 1 ∨ c > 64 / (1 * a * b)
  · rw [if_pos t3] at h; omega
  rw [if_neg t3, Int.one_mul]
theorem shok3 {a b c : Int} (ha : 1 ≤ a ∧ a ≤ 2) (hb : 1 ≤ b) (hc : 1 ≤ c) (hbc : b * c ≤ 9) : ShOk [a, b, c] := by
  have h0 : 1 ≤ b * c := by have := Int.mul_le_mul hb hc (by omega) (by omega); omega
  have h1 : a * (b * c) ≤ 2 * 9 := Int.mul_le_mul ha.2 hbc (by omega) (by omega)
  rw [← Int.mul_assoc] at h1
  have h2 := entries3 ha.1 hb hc (by omega)
  exact ⟨h2, by rw [entries3_val h2]; omega, fun _ => ⟨by simpa using ha.2, by simpa using hbc⟩⟩
theorem dims3 {s : List Int} (hs : ShOk s) (h3 : s.length = 3) : s = [s.getD 0 0, s.getD 1 0, s.getD 2 0] ∧ 1 ≤ s.getD 0 0 ∧ s.getD 0 0 ≤ 2 ∧ 1 ≤ s.getD 1 0 ∧ 1 ≤ s.getD 2 0 ∧ s.getD 1 0 * s.getD 2 0 ≤ 9 ∧ s.getD 1 0 ≤ 9 ∧ s.getD 2 0 ≤ 9 := by
  have e := len3 h3
  have hp := hs.pos
  rw [e] at hp
  obtain ⟨p0, p1, p2, _⟩ := entries3_prod hp
  obtain ⟨q1, q2⟩ := hs.three h3
  have r1 : s.getD 1 0 * 1 ≤ s.getD 1 0 * s.getD 2 0 := Int.mul_le_mul_of_nonneg_left p2 (by omega)
  have r2 : 1 * s.getD 2 0 ≤ s.getD 1 0 * s.getD 2 0 := Int.mul_le_mul_of_nonneg_right p1 (by omega)
  exact ⟨e, p0, q1, p1, p2, q2, by omega, by omega⟩
theorem good_pool (hi : i < sh.length) (hg : sh.getD i [] = s) (hs : ShOk s) (h3 : s.length = 3) (he1 : s.getD 1 0 % 2 = 0) (he2 : s.getD 2 0 % 2 = 0) (h24 : sh.length ≤ 24) : GoodNode ⟨5, i, 0, nilI, 0, 0, 2, nilI, nilI⟩ sh := by
  have hg' : sh.getD ((i : Int)).toNat [] = s := hg
  obtain ⟨_, p0, q0, p1, p2, q2, _, _⟩ := dims3 hs h3
  have m : s.getD 1 0 / 2 * (s.getD 2 0 / 2) ≤ s.getD 1 0 * s.getD 2 0 := Int.mul_le_mul (by omega) (by omega) (by omega) (by omega)
  refine ⟨?_, ⟨[s.getD 0 0, s.getD 1 0 / 2, s.getD 2 0 / 2], ?_, shok3 ⟨p0, q0⟩ (by omega) (by omega) (by omega)⟩, near_of smallL_nil smallL_nil ⟨by simp, by simp, by simp⟩, ⟨nilI_sane, nilI_sane, nilI_sane, by simp [nilI], by simp [nilI], by simp [nilI], z_of (by simp), z_of (by simp only; omega), z0, z0, z0, z_of (by simp)⟩⟩
  · unfold formB lacksB aheadB
    simp [nilI, hi]
  · unfold shapeO
    simp only [hg']
    rw [if_neg (by simp), if_neg (by simp), if_neg (by simp), if_pos trivial, if_neg (by omega)]
theorem kernel4 {a b c e : Int} (ha : 1 ≤ a ∧ a ≤ 64) (hb : 1 ≤ b ∧ b ≤ 64) (hc : 1 ≤ c ∧ c ≤ 64) (he : 1 ≤ e ∧ e ≤ 64) : kernelI [a, b, c, e] = a * b * c * e := by
  unfold kernelI
  rw [if_pos (by simp)]
  simp only [kerLoop]
  rw [if_neg (by omega), if_neg (by omega), if_neg (by omega), if_neg (by omega), Int.one_mul]
theorem good_conv {k0 k2 k3 : Int} (hi : i < sh.length) (hg : sh.getD i [] = s) (hs : ShOk s) (h3 : s.length = 3) (h0 : 1 ≤ k0 ∧ k0 ≤ 2) (h2 : 1 ≤ k2 ∧ k2 ≤ 2 ∧ k2 ≤ s.getD 1 0) (hk3 : 1 ≤ k3 ∧ k3 ≤ 2 ∧ k3 ≤ s.getD 2 0) (hu : u.sane) (hx : u.xs = [k0, s.getD 0 0, k2, k3]) (hd : d.sane) (he : e.sane)
    (hdl : (d.xs.length : Int) = k0 * s.getD 0 0 * k2 * k3) (hel : (e.xs.length : Int) = k0) (h1 : smallL d.xs) (hh : smallL e.xs) (h24 : sh.length ≤ 24) : GoodNode ⟨4, i, 0, u, 0, 0, 0, d, e⟩ sh := by
  have hg' : sh.getD ((i : Int)).toNat [] = s := hg
  obtain ⟨_, p0, q0, p1, p2, q2, q3, q4⟩ := dims3 hs h3
  have hk := kernel4 (a := k0) (b := s.getD 0 0) (c := k2) (e := k3) (by omega) (by omega) (by omega) (by omega)
  have m1 : k0 * s.getD 0 0 ≤ 2 * 2 := Int.mul_le_mul h0.2 q0 (by omega) (by omega)
  have n1 : 1 * 1 ≤ k0 * s.getD 0 0 := Int.mul_le_mul h0.1 p0 (by omega) (by omega)
  have m2 : k0 * s.getD 0 0 * k2 ≤ 4 * 2 := Int.mul_le_mul m1 h2.2.1 (by omega) (by omega)
  have n2 : 1 * 1 ≤ k0 * s.getD 0 0 * k2 := Int.mul_le_mul n1 h2.1 (by omega) (by omega)
  have m3 : k0 * s.getD 0 0 * k2 * k3 ≤ 8 * 2 := Int.mul_le_mul m2 hk3.2.1 (by omega) (by omega)
  have n3 : 1 * 1 ≤ k0 * s.getD 0 0 * k2 * k3 := Int.mul_le_mul n2 hk3.1 (by omega) (by omega)
  have m : (s.getD 1 0 - k2 + 1) * (s.getD 2 0 - k3 + 1) ≤ s.getD 1 0 * s.getD 2 0 := Int.mul_le_mul (by omega) (by omega) (by omega) (by omega)
  have hok := shok3 (a := k0) (b := s.getD 1 0 - k2 + 1) (c := s.getD 2 0 - k3 + 1) h0 (by omega) (by omega) (by omega)
  refine ⟨?_, ⟨[k0, s.getD 1 0 - k2 + 1, s.getD 2 0 - k3 + 1], ?_, hok⟩, near_of h1 hh ⟨by simp, by simp, by simp⟩, ⟨hu, hd, he, by simp only [hx]; simp, by simp only; omega, by simp only; omega, z_of (by simp), z_of (by simp only; omega), z0, z0, z0, z0⟩⟩
  · unfold formB
    rw [if_neg (by simp), if_neg (by simp), if_neg (by simp), if_pos rfl]
    unfold lacksB aheadB
    simp only [hx, hk, hdl, hel]
    generalize k0 * s.getD 0 0 * k2 * k3 = K at *
    have hK : 0 < K := by omega
    simp [hi, hK]
  · unfold shapeO
    simp only [hg', hx]
    rw [if_neg (by simp), if_neg (by simp), if_pos trivial]
    simp only [List.getD_cons_zero, List.getD_cons_succ]
    rw [if_neg (by omega), if_pos hok.pos]
end
end Go.Proofs.Ytdmkdogakbipbaa

/- NB -/
namespace Go.Proofs.Ytdmkdogakbipbaa
open Go.SX Go.RowKit
abbrev gD (l : List (List Int)) (k : Nat) : List Int := l.getD k []
abbrev gS (l : List Sp) (k : Nat) : Sp := l.getD k (0, 0)
def spanP (p : NodeP) (s : List Int) (rsh : List (List Int)) (rsp : List Sp) : Sp := spanE (endsA p.toV (entries s).toNat (gD rsh p.a.toNat) (gS rsp p.a.toNat) (gS rsp p.b.toNat))
structure RowOk (row : List NodeP) (rsh : List (List Int)) (rsp : List Sp) : Prop where
  lenS : rsh.length = row.length
  lenP : rsp.length = row.length
  pos : ∀ q ∈ rsh, 0 < entries q
  node : ∀ k p, row[k]? = some p → NodeIn p.toV (rsh.take k) (gD rsh k)
  span : ∀ k p, row[k]? = some p → gS rsp k = spanP p (gD rsh k) rsh rsp ∧ -1048576 ≤ (gS rsp k).1 ∧ (gS rsp k).2 ≤ 1048576
theorem ends_free {n : NodeV} (h : n.kind = 1 ∨ n.kind = 2) (cnt cnt' : Nat) (t t' : List Int) (A B A' B' : Sp) : endsA n cnt t A B = endsA n cnt' t' A' B' := by
  have hl : ¬ isLin n := by unfold isLin; omega
  have e1 : endsA n cnt t A B = endsL n A B := if_neg hl
  have e2 : endsA n cnt' t' A' B' = endsL n A' B' := if_neg hl
  rw [e1, e2]
  unfold endsL
  rcases h with h1 | h2
  · rw [if_pos h1, if_pos h1]
  · rw [if_neg (by omega), if_pos h2, if_neg (by omega), if_pos h2]
theorem ends_freeB {n : NodeV} (h : n.kind ≠ 6) (cnt : Nat) (t : List Int) (A B B' : Sp) : endsA n cnt t A B = endsA n cnt t A B' := by
  unfold endsA
  split
  · rfl
  · unfold endsL
    rw [if_neg h, if_neg h]
theorem gD_left {l r : List (List Int)} {k : Nat} (h : k < l.length) : gD (l ++ r) k = gD l k := by
  unfold gD; rw [List.getD_eq_getElem?_getD, List.getD_eq_getElem?_getD, List.getElem?_append_left h]
theorem gS_left {l r : List Sp} {k : Nat} (h : k < l.length) : gS (l ++ r) k = gS l k := by
  unfold gS; rw [List.getD_eq_getElem?_getD, List.getD_eq_getElem?_getD, List.getElem?_append_left h]
theorem gD_last {l : List (List Int)} {x : List Int} {k : Nat} (h : k = l.length) : gD (l ++ [x]) k = x := by
  subst h; unfold gD; rw [List.getD_eq_getElem?_getD, List.getElem?_append_right (Nat.le_refl _), Nat.sub_self]; rfl
theorem gS_last {l : List Sp} {x : Sp} {k : Nat} (h : k = l.length) : gS (l ++ [x]) k = x := by
  subst h; unfold gS; rw [List.getD_eq_getElem?_getD, List.getElem?_append_right (Nat.le_refl _), Nat.sub_self]; rfl
theorem gD_take {l : List (List Int)} {i k : Nat} (h : k < i) : gD (l.take i) k = gD l k := by
  unfold gD; rw [List.getD_eq_getElem?_getD, List.getD_eq_getElem?_getD, List.getElem?_take, if_pos h]
theorem gS_take {l : List Sp} {i k : Nat} (h : k < i) : gS (l.take i) k = gS l k := by
  unfold gS; rw [List.getD_eq_getElem?_getD, List.getD_eq_getElem?_getD, List.getElem?_take, if_pos h]
theorem gD_mem {l : List (List Int)} {k : Nat} (h : k < l.length) : gD l k ∈ l := getD_memL h
/-- a node's places -/
structure AheadP (p : NodeP) (k : Nat) : Prop where
  a0 : 0 ≤ p.a
  a1 : p.kind ≠ 1 → p.kind ≠ 2 → p.a.toNat < k
  a2 : p.kind = 1 ∨ p.kind = 2 → p.a = 0
  b0 : 0 ≤ p.b
  b1 : p.kind = 6 → p.b.toNat < k
  b2 : p.kind ≠ 6 → p.b = 0
  kind : 1 ≤ p.kind ∧ p.kind ≤ 9
theorem lacks_ab {n : NodeV} {i : Nat} (h : formB n i = true) : (n.kind = 1 ∨ n.kind = 2 → n.a = 0) ∧ (n.kind ≠ 6 → n.b = 0) := by
  have hkk := (formed_of h).kind
  unfold formB at h
  have hk : n.kind = 1 ∨ n.kind = 2 ∨ n.kind = 3 ∨ n.kind = 4 ∨ n.kind = 5 ∨ n.kind = 6 ∨ n.kind = 7 ∨ n.kind = 8 ∨ n.kind = 9 := by omega
  rcases hk with hk | hk | hk | hk | hk | hk | hk | hk | hk
  all_goals repeat (first | rw [if_pos hk] at h | rw [if_neg (by omega)] at h)
  all_goals simp only [lacksB, Bool.true_or, Bool.false_or, Bool.true_and, Bool.and_true, Bool.and_eq_true, decide_eq_true_eq] at h
  all_goals exact ⟨by omega, by omega⟩
theorem aheadP_of {p : NodeP} {k : Nat} (h : formB p.toV k = true) : AheadP p k := by
  obtain ⟨hA, hB, _⟩ := ahead_of h
  obtain ⟨lA, lB⟩ := lacks_ab h
  have hf := formed_of h
  have e1 : p.toV.kind = p.kind := rfl
  have e2 : p.toV.a = p.a := rfl
  have e3 : p.toV.b = p.b := rfl
  have hfa := hf.a
  have hfb := hf.b
  have hfk := hf.kind
  rw [e1, e2] at *
  rw [e3] at *
  exact ⟨hA.1, fun h1 h2 => by have := hfa h1 h2; omega, lA, hB.1, fun h => by have := hfb h; omega, lB, hfk⟩
theorem RowOk.lenK {row : List NodeP} {rsh : List (List Int)} {rsp : List Sp} (h : RowOk row rsh rsp) {k : Nat} {p : NodeP} (hk : row[k]? = some p) : k < row.length ∧ (rsh.take k).length = k := by
  have hlt := (List.getElem?_eq_some_iff.1 hk).1
  exact ⟨hlt, by rw [List.length_take, h.lenS]; omega⟩
theorem RowOk.ahead {row : List NodeP} {rsh : List (List Int)} {rsp : List Sp} (h : RowOk row rsh rsp) {k : Nat} {p : NodeP} (hk : row[k]? = some p) : AheadP p k := by
  have hf := (h.node k p hk).form
  rw [(h.lenK hk).2] at hf
  exact aheadP_of hf
theorem place_of {p : NodeP} {sh : List (List Int)} {s : List Int} (hn : NodeIn p.toV sh s) (hp : ∀ q ∈ sh, 0 < entries q) : PlaceIn p.toV sh s (gD sh p.a.toNat) (entries s).toNat := by
  refine ⟨hn, by have := (entries_bd s).1; omega, hp, fun hl => ⟨rfl, hp _ (gD_mem ?_)⟩⟩
  have := (aheadP_of hn.form).a1
  have hl : p.kind = 3 ∨ p.kind = 4 ∨ p.kind = 5 := hl
  exact this (by omega) (by omega)
theorem RowOk.place {row : List NodeP} {rsh : List (List Int)} {rsp : List Sp} (h : RowOk row rsh rsp) {k : Nat} {p : NodeP} (hk : row[k]? = some p) : PlaceIn p.toV (rsh.take k) (gD rsh k) (gD (rsh.take k) p.a.toNat) (entries (gD rsh k)).toNat :=
  place_of (h.node k p hk) fun q hq => h.pos q (List.mem_of_mem_take hq)
theorem RowOk.nil : RowOk [] [] [] := ⟨rfl, rfl, fun q hq => by simp at hq, fun k p hk => by simp at hk, fun k p hk => by simp at hk⟩
theorem spanP_left {p : NodeP} {s : List Int} {k : Nat} (ha : AheadP p k) {rsh r1 : List (List Int)} {rsp r2 : List Sp} (h1 : k ≤ rsh.length) (h2 : k ≤ rsp.length) : spanP p s (rsh ++ r1) (rsp ++ r2) = spanP p s rsh rsp := by
  unfold spanP
  by_cases h12 : p.kind = 1 ∨ p.kind = 2
  · rw [ends_free (n := p.toV) h12]
  · have hA := ha.a1 (by omega) (by omega)
    rw [gD_left (by omega), gS_left (by omega)]
    by_cases h6 : p.kind = 6
    · have := ha.b1 h6
      rw [gS_left (by omega)]
    · rw [ends_freeB (n := p.toV) h6]
theorem RowOk.snoc {row : List NodeP} {rsh : List (List Int)} {rsp : List Sp} (h : RowOk row rsh rsp) {m : NodeP} {s : List Int} (hn : NodeIn m.toV rsh s) (h1 : -1048576 ≤ (spanP m s rsh rsp).1) (h2 : (spanP m s rsh rsp).2 ≤ 1048576) : RowOk (row ++ [m]) (rsh ++ [s]) (rsp ++ [spanP m s rsh rsp]) := by
  have l1 := h.lenS
  have l2 := h.lenP
  have hm := aheadP_of hn.form
  refine ⟨by simp [l1], by simp [l2], fun q hq => ?_, fun k p hk => ?_, fun k p hk => ?_⟩
  · rcases List.mem_append.1 hq with hq | hq
    · exact h.pos q hq
    · simp at hq; subst hq
      exact shape_good (formed_of hn.form) h.pos hn.shape rfl
  · rcases Nat.lt_or_ge k row.length with hlt | hge
    · rw [List.getElem?_append_left hlt] at hk
      rw [List.take_append_of_le_length (by omega), gD_left (by omega)]
      exact h.node k p hk
    · rw [List.getElem?_append_right hge] at hk
      have h0 : k - row.length = 0 := by
        rcases Nat.eq_zero_or_pos (k - row.length) with h | h
        · exact h
        · rw [List.getElem?_eq_none (by simp; omega)] at hk; cases hk
      rw [h0] at hk
      simp only [List.getElem?_cons_zero, Option.some.injEq] at hk
      subst hk
      have hk : k = rsh.length := by omega
      rw [gD_last hk, hk, List.take_left]
      exact hn
  · rcases Nat.lt_or_ge k row.length with hlt | hge
    · rw [List.getElem?_append_left hlt] at hk
      have := h.span k p hk
      rw [gS_left (by omega), gD_left (by omega), spanP_left (h.ahead hk) (by omega) (by omega)]
      exact this
    · rw [List.getElem?_append_right hge] at hk
      have h0 : k - row.length = 0 := by
        rcases Nat.eq_zero_or_pos (k - row.length) with h | h
        · exact h
        · rw [List.getElem?_eq_none (by simp; omega)] at hk; cases hk
      rw [h0] at hk
      simp only [List.getElem?_cons_zero, Option.some.injEq] at hk
      subst hk
      rw [gS_last (by omega), gD_last (by omega), spanP_left hm (Nat.le_refl _) (by omega)]
      exact ⟨rfl, h1, h2⟩
/-- such a row as a graph -/
theorem RowOk.checkR {row : List NodeP} {rsh : List (List Int)} {rsp : List Sp} (h : RowOk row rsh rsp) : checkR (row.map NodeP.toV) [] = (0, rsh) := by
  have l1 := h.lenS
  have key : ∀ d k, row.length - k = d → k ≤ row.length → Go.Proofs.Ytdmkdogakbipbaa.checkR ((row.drop k).map NodeP.toV) (rsh.take k) = (0, rsh) := by
    intro d
    induction d with
    | zero =>
      intro k hd hk
      rw [List.drop_of_length_le (by omega), List.take_of_length_le (by omega)]
      rfl
    | succ d ih =>
      intro k hd hk
      have hlt : k < row.length := by omega
      have hn := h.node k row[k] (List.getElem?_eq_getElem hlt)
      rw [List.drop_eq_getElem_cons hlt, List.map_cons, checkR_next hn.form hn.shape hn.near]
      have : rsh.take k ++ [gD rsh k] = rsh.take (k + 1) := by
        have hlt2 : k < rsh.length := by omega
        rw [List.take_succ_eq_append_getElem hlt2]
        unfold gD; rw [List.getD_eq_getElem?_getD, List.getElem?_eq_getElem hlt2]; rfl
      rw [this]
      exact ih (k + 1) (by omega) (by omega)
  simpa using key row.length 0 (by omega) (by omega)
theorem spanP_take {p : NodeP} {s : List Int} {k : Nat} (ha : AheadP p k) {rsh : List (List Int)} {rsp : List Sp} : spanP p s rsh rsp = spanE (endsA p.toV (entries s).toNat (gD rsh p.a.toNat) (gS (rsp.take k) p.a.toNat) (gS (rsp.take k) p.b.toNat)) := by
  unfold spanP
  by_cases h12 : p.kind = 1 ∨ p.kind = 2
  · rw [ends_free (n := p.toV) h12]
  · have hA := ha.a1 (by omega) (by omega)
    rw [gS_take (by omega)]
    by_cases h6 : p.kind = 6
    · rw [gS_take (ha.b1 h6)]
    · rw [ends_freeB (n := p.toV) h6]
theorem RowOk.spansQ {row : List NodeP} {rsh : List (List Int)} {rsp : List Sp} (h : RowOk row rsh rsp) : spansQ rsh (row.map NodeP.toV) [] = (0, rsp) := by
  have l1 := h.lenS
  have l2 := h.lenP
  have key : ∀ d k, row.length - k = d → k ≤ row.length → Go.Proofs.Ytdmkdogakbipbaa.spansQ rsh ((row.drop k).map NodeP.toV) (rsp.take k) = (0, rsp) := by
    intro d
    induction d with
    | zero =>
      intro k hd hk
      rw [List.drop_of_length_le (by omega), List.take_of_length_le (by omega)]
      rfl
    | succ d ih =>
      intro k hd hk
      have hlt : k < row.length := by omega
      have hkk : row[k]? = some row[k] := List.getElem?_eq_getElem hlt
      obtain ⟨q1, q2, q3⟩ := h.span k row[k] hkk
      rw [List.drop_eq_getElem_cons hlt, List.map_cons]
      have e : spanE (endsAt rsh row[k].toV (rsp.take k)) = gS rsp k := by
        rw [q1, spanP_take (h.ahead hkk)]
        unfold endsAt
        rw [List.length_take, Nat.min_eq_left (by omega)]
        rfl
      have e1 : foldI min (endsAt rsh row[k].toV (rsp.take k)) = (gS rsp k).1 := by rw [← e]; rfl
      have e2 : foldI max (endsAt rsh row[k].toV (rsp.take k)) = (gS rsp k).2 := by rw [← e]; rfl
      have : rsp.take k ++ [((gS rsp k).1, (gS rsp k).2)] = rsp.take (k + 1) := by
        have hlt2 : k < rsp.length := by omega
        rw [List.take_succ_eq_append_getElem hlt2]
        unfold gS; rw [List.getD_eq_getElem?_getD, List.getElem?_eq_getElem hlt2]; rfl
      unfold Go.Proofs.Ytdmkdogakbipbaa.spansQ
      rw [e1, e2, if_neg (by omega), this]
      exact ih (k + 1) (by omega) (by omega)
  simpa using key row.length 0 (by omega) (by omega)
theorem RowOk.check {row : List NodeP} {rsh : List (List Int)} {rsp : List Sp} (h : RowOk row rsh rsp) (h24 : row.length ≤ 24) {g : GraphV} (hg : g.l.map NodeV.pl = row) (h0 : 0 ≤ g.out) (h1 : g.out < row.length) : Go.Proofs.Ytdmkdogakbipbaa.check g = (0, rsh) := by
  have hl : g.l.length = row.length := by rw [← hg]; simp
  unfold Go.Proofs.Ytdmkdogakbipbaa.check
  rw [if_neg (by omega), checkR_pl (m := row.map NodeP.toV) [] (by rw [hg, List.map_map]; exact (List.map_id row).symm)]
  exact h.checkR
theorem spansQ_pl {sh : List (List Int)} : ∀ {l m : List NodeV} {acc : List Sp}, l.map NodeV.pl = m.map NodeV.pl → spansQ sh l acc = spansQ sh m acc
  | [], [], _, _ => rfl
  | [], _ :: _, _, h => by simp at h
  | _ :: _, [], _, h => by simp at h
  | x :: l, y :: m, acc, h => by
    simp only [List.map_cons, List.cons.injEq] at h
    have e : endsAt sh x acc = endsAt sh y acc := by
      have : ∀ z : NodeV, endsAt sh z acc = endsAt sh z.pl.toV acc := fun z => rfl
      rw [this x, this y, h.1]
    unfold spansQ
    rw [e]
    split
    · rfl
    · exact spansQ_pl h.2
theorem RowOk.spans {row : List NodeP} {rsh : List (List Int)} {rsp : List Sp} (h : RowOk row rsh rsp) (h24 : row.length ≤ 24) {g : GraphV} (hg : g.l.map NodeV.pl = row) (h0 : 0 ≤ g.out) (h1 : g.out < row.length) : spansH g = (0, rsp) := by
  have hc := h.check h24 hg h0 h1
  unfold spansH
  rw [hc, if_neg (by simp), spansQ_pl (m := row.map NodeP.toV) (by rw [hg, List.map_map]; exact (List.map_id row).symm)]
  exact h.spansQ
/-- a graph that has spans -/
theorem rowOk_graph {g : GraphV} (hsp : (spansH g).1 = 0) : RowOk (g.l.map NodeV.pl) (check g).2 (spansH g).2 := by
  obtain ⟨hck, hsl, hsi⟩ := spansH_in hsp
  obtain ⟨hl1, hl24, hout, hcl, hin⟩ := check_in hck
  have hnode : ∀ k p, (g.l.map NodeV.pl)[k]? = some p → ∃ n : NodeV, g.l[k]? = some n ∧ n.pl = p := fun k p hk => by
    rw [List.getElem?_map] at hk
    cases hn : g.l[k]? with
    | none => rw [hn] at hk; simp at hk
    | some n => rw [hn] at hk; exact ⟨n, hn, by simpa using hk⟩
  have hN : ∀ k p, (g.l.map NodeV.pl)[k]? = some p → NodeIn p.toV ((check g).2.take k) (gD (check g).2 k) := fun k p hk => by
    obtain ⟨n, hn, rfl⟩ := hnode k p hk
    obtain ⟨s, hs, h⟩ := hin k n hn
    have : gD (check g).2 k = s := by unfold gD; rw [List.getD_eq_getElem?_getD, hs]; rfl
    rw [this]
    exact ⟨by rw [form_pl]; exact h.form, h.shape, by rw [near_pl]; exact h.near⟩
  refine ⟨by rw [hcl, List.length_map], by rw [hsl, List.length_map], shapes_pos hck, hN, fun k p hk => ?_⟩
  have hah : AheadP p k := by
    have hf := (hN k p hk).form
    obtain ⟨n, hn, rfl⟩ := hnode k p hk
    have := (List.getElem?_eq_some_iff.1 hn).1
    rw [List.length_take, hcl, Nat.min_eq_left (by omega)] at hf
    exact aheadP_of hf
  obtain ⟨n, hn, rfl⟩ := hnode k p hk
  obtain ⟨s, hs, he, h1, h2⟩ := hsi k n hn
  have hkl := (List.getElem?_eq_some_iff.1 hn).1
  have : gS (spansH g).2 k = s := by unfold gS; rw [List.getD_eq_getElem?_getD, hs]; rfl
  rw [this]
  refine ⟨?_, h1, h2⟩
  rw [he, spanP_take hah]
  unfold spanAt endsAt
  rw [List.length_take, hsl, Nat.min_eq_left (by omega)]
  rfl
end Go.Proofs.Ytdmkdogakbipbaa

/- NC -/
namespace Go.Proofs.Ytdmkdogakbipbaa
open Go.SX Go.RowKit
theorem const_in {p : NodeP} {sh : List (List Int)} {s : List Int} (h : NodeIn p.toV sh s) (h2 : p.kind = 2) : s = p.shape ∧ (p.data.length : Int) = entries p.shape ∧ 0 < entries p.shape ∧ ∀ x ∈ p.data, bd20 x := by
  obtain ⟨_, _, _, _, hd⟩ := ahead_of h.form
  have hs := h.shape
  unfold shapeO at hs
  have hk : p.toV.kind = 2 := h2
  rw [if_pos (.inr hk), Option.some.injEq] at hs
  exact ⟨hs.symm, hd h2, (formed_of h.form).own (.inr (.inl hk)), (near_in h.near).1⟩
theorem spanP_const {p : NodeP} (h2 : p.kind = 2) (s : List Int) (rsh : List (List Int)) (rsp : List Sp) : spanP p s rsh rsp = spanE p.data := by
  unfold spanP
  have hk : p.toV.kind = 2 := h2
  have hl : ¬ isLin p.toV := by unfold isLin; omega
  have e1 : endsA p.toV (entries s).toNat (gD rsh p.a.toNat) (gS rsp p.a.toNat) (gS rsp p.b.toNat) = endsL p.toV (gS rsp p.a.toNat) (gS rsp p.b.toNat) := if_neg hl
  rw [e1]
  unfold endsL
  rw [if_neg (by omega), if_pos hk]
  rfl
theorem const_form {p : NodeP} {i k : Nat} (h2 : p.kind = 2) (h : formB p.toV i = true) : formB p.toV k = true := by
  have := form_move (k := k) (a := p.a) (b := p.b) h (fun _ g => absurd h2 g) (fun _ => rfl) (fun g => absurd (h2.symm.trans g) (by decide)) (fun _ => rfl)
  exact this
theorem const_node {p : NodeP} {sh sh' : List (List Int)} {s : List Int} (h : NodeIn p.toV sh s) (h2 : p.kind = 2) : NodeIn p.toV sh' s := by
  refine ⟨const_form h2 h.form, ?_, h.near⟩
  have hs := h.shape
  have hk : p.toV.kind = 2 := h2
  unfold shapeO at hs ⊢
  rw [if_pos (.inr hk)] at hs ⊢
  exact hs
/-- where nodes stand, with shapes as they were and spans no wider -/
structure Std (sh : List (List Int)) (sp : List Sp) (rsh : List (List Int)) (rsp : List Sp) (st : List Nat) : Prop where
  lt : ∀ j, j < st.length → st.getD j 0 < rsh.length
  sh : ∀ j, j < st.length → gD rsh (st.getD j 0) = gD sh j
  sp : ∀ j, j < st.length → tight (gS rsp (st.getD j 0)) (gS sp j)
theorem moved_eq (st : List Nat) (n : NodeP) : (movedP st n).toV = atV n.toV (movedP st n).a (movedP st n).b ∧ (movedP st n).kind = n.kind ∧ (n.kind ≠ 1 → n.kind ≠ 2 → (movedP st n).a = st.getD n.a.toNat 0) ∧ (n.kind = 1 ∨ n.kind = 2 → (movedP st n).a = n.a) ∧ (n.kind = 6 → (movedP st n).b = st.getD n.b.toNat 0) ∧ (n.kind ≠ 6 → (movedP st n).b = n.b) := by
  unfold movedP
  by_cases h12 : n.kind = 1 ∨ n.kind = 2
  · rw [if_pos h12]
    exact ⟨rfl, rfl, fun h1 h2 => by omega, fun _ => rfl, fun h => by omega, fun _ => rfl⟩
  · rw [if_neg h12]
    by_cases h6 : n.kind = 6
    · rw [if_pos h6]
      exact ⟨rfl, rfl, fun _ _ => rfl, fun h => absurd h h12, fun _ => rfl, fun h => absurd h6 h⟩
    · rw [if_neg h6]
      exact ⟨rfl, rfl, fun _ _ => rfl, fun h => absurd h h12, fun h => absurd h h6, fun _ => rfl⟩
section
variable {l : List NodeP} {sh : List (List Int)} {sp : List Sp} {row : List NodeP} {rsh : List (List Int)} {rsp : List Sp} {st : List Nat} {n : NodeP}
theorem moved_in (hL : RowOk l sh sp) (hR : RowOk row rsh rsp) (hst : Std sh sp rsh rsp st) (hn : l[st.length]? = some n) : NodeIn (movedP st n).toV rsh (gD sh st.length) ∧ tight (spanP (movedP st n) (gD sh st.length) rsh rsp) (gS sp st.length) := by
  obtain ⟨e0, ek, ea, ea2, eb, eb2⟩ := moved_eq st n
  have hni := hL.node _ _ hn
  have hah := hL.ahead hn
  have hti := (hL.lenK hn).2
  have hf := hni.form
  rw [hti] at hf
  have kk : n.toV.kind = n.kind := rfl
  have ka : n.toV.a = n.a := rfl
  have kb : n.toV.b = n.b := rfl
  have hA : n.kind ≠ 1 → n.kind ≠ 2 → (movedP st n).a.toNat = st.getD n.a.toNat 0 := fun h1 h2 => by rw [ea h1 h2]; omega
  have hB : n.kind = 6 → (movedP st n).b.toNat = st.getD n.b.toNat 0 := fun h => by rw [eb h]; omega
  refine ⟨⟨?_, ?_, ?_⟩, ?_⟩
  · rw [e0]
    refine form_move hf (fun h1 h2 => ?_) (fun h => ?_) (fun h => ?_) (fun h => ?_)
    · have := hst.lt _ (hah.a1 h1 h2)
      rw [ea h1 h2]; omega
    · exact ea2 h
    · have := hst.lt _ (hah.b1 h)
      rw [eb h]; omega
    · exact eb2 h
  · rw [e0, shape_move (sh := sh.take st.length) (fun h1 h2 => ?_) (fun h => ?_)]
    · exact hni.shape
    · show gD rsh (movedP st n).a.toNat = gD (sh.take st.length) n.a.toNat
      rw [hA h1 h2, hst.sh _ (hah.a1 h1 h2), gD_take (hah.a1 h1 h2)]
    · show gD rsh (movedP st n).b.toNat = gD (sh.take st.length) n.b.toNat
      rw [hB h, hst.sh _ (hah.b1 h), gD_take (hah.b1 h)]
  · rw [e0, near_move]; exact hni.near
  · obtain ⟨q1, q2, q3⟩ := hL.span _ _ hn
    rw [q1, spanP_take hah]
    unfold spanP
    rw [e0, ends_move]
    by_cases h12 : n.kind = 1 ∨ n.kind = 2
    · rw [ends_free (n := n.toV) h12 _ (entries (gD sh st.length)).toNat _ (gD sh n.a.toNat) _ _ (gS (sp.take st.length) n.a.toNat) (gS (sp.take st.length) n.b.toNat)]
      exact tight_refl _
    · have ha1 := hah.a1 (by omega) (by omega)
      have hp := hL.place hn
      rw [gD_take ha1] at hp
      rw [hA (by omega) (by omega), hst.sh _ ha1, gS_take ha1]
      have lo : ∀ j, j < st.length → (gS rsp (st.getD j 0)).1 ≤ (gS rsp (st.getD j 0)).2 := fun j hj => by
        have hk := hst.lt j hj
        rw [hR.lenS] at hk
        have hk' := List.getElem?_eq_getElem hk
        rw [(hR.span _ _ hk').1]
        unfold spanP
        by_cases g12 : (row[st.getD j 0]).kind = 1 ∨ (row[st.getD j 0]).kind = 2
        · rw [ends_free (n := (row[st.getD j 0]).toV) g12 _ _ _ _ _ _ (0, 0) (0, 0)]
          exact spanE_le (hR.place hk') (0, 0) (0, 0)
        · have := (hR.ahead hk').a1 (by omega) (by omega)
          have hp2 := hR.place hk'
          rw [gD_take this] at hp2
          exact spanE_le hp2 _ _
      refine ends_tight hp (fun h1 h2 => ⟨hst.sp _ ha1, lo _ ha1⟩) (fun h6 => ?_)
      have h6' : n.kind = 6 := h6
      have hb1 := hah.b1 h6'
      rw [hB h6', gS_take hb1]
      exact ⟨hst.sp _ hb1, lo _ hb1⟩
theorem getD_some {row : List NodeP} {k : Nat} (h : k < row.length) : row[k]? = some (row.getD k nilP) := by
  rw [List.getD_eq_getElem?_getD, List.getElem?_eq_getElem h]; rfl
/-- what is known of a node all of whose places are constants -/
structure KnownIn (row : List NodeP) (rsh : List (List Int)) (rsp : List Sp) (m : NodeP) (s : List Int) : Prop where
  kind : m.kind ≠ 1 ∧ m.kind ≠ 2
  aLt : m.a.toNat < row.length
  aK : (row.getD m.a.toNat nilP).kind = 2
  aSh : gD rsh m.a.toNat = (row.getD m.a.toNat nilP).shape
  aLen : ((row.getD m.a.toNat nilP).data.length : Int) = entries (row.getD m.a.toNat nilP).shape
  aSp : gS rsp m.a.toNat = spanE (row.getD m.a.toNat nilP).data
  bLt : m.kind = 6 → m.b.toNat < row.length
  bK : m.kind = 6 → (row.getD m.b.toNat nilP).kind = 2
  bSh : m.kind = 6 → gD rsh m.b.toNat = (row.getD m.b.toNat nilP).shape
  bLen : m.kind = 6 → ((row.getD m.b.toNat nilP).data.length : Int) = entries (row.getD m.b.toNat nilP).shape
  bSp : m.kind = 6 → gS rsp m.b.toNat = spanE (row.getD m.b.toNat nilP).data
theorem const_at (hR : RowOk row rsh rsp) {k : Nat} (hk : k < row.length) (h2 : (row.getD k nilP).kind = 2) : gD rsh k = (row.getD k nilP).shape ∧ ((row.getD k nilP).data.length : Int) = entries (row.getD k nilP).shape ∧ gS rsp k = spanE (row.getD k nilP).data ∧ (∀ x ∈ (row.getD k nilP).data, bd20 x) ∧ 0 < entries (row.getD k nilP).shape := by
  have hk' := getD_some hk
  obtain ⟨q1, q2, q3, q4⟩ := const_in (hR.node k _ hk') h2
  obtain ⟨p1, _, _⟩ := hR.span k _ hk'
  rw [spanP_const h2] at p1
  exact ⟨q1, q2, p1, q4, q3⟩
theorem known_in (hR : RowOk row rsh rsp) {m : NodeP} {s : List Int} (hm : NodeIn m.toV rsh s) (hk : knownP row m = true) : KnownIn row rsh rsp m s := by
  have hah := aheadP_of hm.form
  rw [hR.lenS] at hah
  unfold knownP constAt at hk
  simp only [Bool.and_eq_true, Bool.not_eq_true', decide_eq_false_iff_not, decide_eq_true_eq, Bool.or_eq_true] at hk
  obtain ⟨⟨h12, hA⟩, hB⟩ := hk
  have a1 := hah.a1 (by omega) (by omega)
  obtain ⟨c1, c2, c3, _⟩ := const_at hR a1 hA
  refine ⟨by omega, a1, hA, c1, c2, c3, hah.b1, fun h => ?_, fun h => ?_, fun h => ?_, fun h => ?_⟩
  · exact hB.resolve_left (fun g => g h)
  all_goals
    obtain ⟨c1, c2, c3, _⟩ := const_at hR (hah.b1 h) (hB.resolve_left (fun g => g h))
    assumption
def bData (row : List NodeP) (m : NodeP) : List Int := if m.kind = 6 then (row.getD m.b.toNat nilP).data else []
theorem within_data {l : List Int} : within (spanE l) l := fun x hx => ⟨foldI_min_le hx, foldI_max_ge hx⟩
theorem numIn_of (hR : RowOk row rsh rsp) {m : NodeP} {s : List Int} (h : KnownIn row rsh rsp m s) : NumIn m.toV rsh (row.getD m.a.toNat nilP).data (bData row m) :=
  ⟨fun _ _ => by show _ = entries (gD rsh m.a.toNat); rw [h.aSh]; exact h.aLen, fun h6 => by
    have h6' : m.kind = 6 := h6
    show _ = entries (gD rsh m.b.toNat)
    unfold bData
    rw [if_pos h6', h.bSh h6']; exact h.bLen h6'⟩
theorem nums_freeB {n : NodeV} (h : n.kind ≠ 6) (cnt : Nat) (t a b b' : List Int) : numsA n cnt t a b = numsA n cnt t a b' := by
  unfold numsA
  split
  · rfl
  · unfold numsL numAt
    simp only [if_neg h]
theorem numsP_in (hR : RowOk row rsh rsp) {m : NodeP} {s : List Int} (hm : NodeIn m.toV rsh s) (h : KnownIn row rsh rsp m s) : within (spanP m s rsh rsp) (numsP s row m) ∧ (numsP s row m).length = (entries s).toNat := by
  have hp := place_of hm hR.pos
  have hA : within (gS rsp m.a.toNat) (row.getD m.a.toNat nilP).data := by rw [h.aSp]; exact within_data
  have hB : within (gS rsp m.b.toNat) (bData row m) := by
    unfold bData
    by_cases h6 : m.kind = 6
    · rw [if_pos h6, h.bSp h6]; exact within_data
    · rw [if_neg h6]; exact fun x hx => by simp at hx
  have := nums_in (t := ⟨none, 0, gD rsh m.a.toNat⟩) hp h.kind.1 (numIn_of hR h) hA hB
  have e : numsP s row m = numsA m.toV (entries s).toNat (gD rsh m.a.toNat) (row.getD m.a.toNat nilP).data (bData row m) := by rw [h.aSh]; rfl
  rw [e]
  exact this
/-- the node as a constant -/
theorem const_new {s d : List Int} {sh : List (List Int)} (hs : 0 < entries s) (hd : (d.length : Int) = entries s) (hb : ∀ x ∈ d, bd20 x) : NodeIn (NodeP.toV ⟨2, 0, 0, s, 0, 0, 0, d, []⟩) sh s := by
  refine ⟨?_, ?_, ?_⟩
  · unfold formB
    have e1 : (NodeP.toV ⟨2, 0, 0, s, 0, 0, 0, d, []⟩).kind = 2 := rfl
    rw [e1, if_neg (by decide), if_pos (by decide)]
    simp only [lacksB, NodeP.toV]
    simp [hs, hd]
  · unfold shapeO; rw [if_pos (.inr rfl)]; rfl
  · unfold nearB nearL
    simp only [NodeP.toV, Bool.and_eq_true, List.all_eq_true, decide_eq_true_eq]
    exact ⟨⟨⟨hb, fun x hx => by simp at hx⟩, fun x hx => by simp at hx; subst hx; omega⟩, rfl⟩
theorem fold_in (hL : RowOk l sh sp) (hR : RowOk row rsh rsp) (hst : Std sh sp rsh rsp st) (hn : l[st.length]? = some n) : NodeIn (foldP (gD sh st.length) row (movedP st n)).toV rsh (gD sh st.length) ∧ tight (spanP (foldP (gD sh st.length) row (movedP st n)) (gD sh st.length) rsh rsp) (gS sp st.length) := by
  obtain ⟨hm, ht⟩ := moved_in hL hR hst hn
  unfold foldP
  by_cases hk : knownP row (movedP st n) = true
  · rw [if_pos hk]
    obtain ⟨w1, w2⟩ := numsP_in hR hm (known_in hR hm hk)
    have hspn := (hL.span _ _ hn).2
    have hpos := shape_good (formed_of hm.form) hR.pos hm.shape rfl
    have hne : 1 ≤ (numsP (gD sh st.length) row (movedP st n)).length := by rw [w2]; omega
    refine ⟨const_new hpos (by rw [w2]; omega) (fun x hx => ?_), ?_⟩
    · have := w1 x hx
      unfold tight at ht
      unfold bd20; omega
    · rw [spanP_const rfl]
      refine tight_trans ?_ ht
      exact ⟨(w1 _ (foldI_min_mem hne)).1, (w1 _ (foldI_max_mem hne)).2⟩
  · rw [if_neg hk]; exact ⟨hm, ht⟩
theorem same_place (hR : RowOk row rsh rsp) {p : NodeP} {k : Nat} {s : List Int} (hk : row[k]? = some p) (hm : NodeIn p.toV rsh s) : gD rsh k = s ∧ gS rsp k = spanP p s rsh rsp := by
  have hah := hR.ahead hk
  have hn := hR.node k p hk
  have e : shapeO p.toV (rsh.take k) = shapeO p.toV rsh := by
    have := shape_move (n := p.toV) (sh := rsh) (sh' := rsh.take k) (a := p.a) (b := p.b) (fun h1 h2 => gD_take (hah.a1 h1 h2)) (fun h6 => gD_take (hah.b1 h6))
    exact this
  have h1 := hn.shape
  rw [e, hm.shape, Option.some.injEq] at h1
  refine ⟨h1.symm, ?_⟩
  rw [(hR.span k p hk).1, h1]
theorem step_ok (hL : RowOk l sh sp) (hR : RowOk row rsh rsp) (hst : Std sh sp rsh rsp st) (hn : l[st.length]? = some n) : ∃ rsh' rsp', RowOk (stepP (gD sh st.length) (row, st) n).1 rsh' rsp' ∧ Std sh sp rsh' rsp' (stepP (gD sh st.length) (row, st) n).2 := by
  obtain ⟨hm, ht⟩ := fold_in hL hR hst hn
  have hspn := (hL.span _ _ hn).2
  unfold stepP layP
  simp only
  generalize foldP (gD sh st.length) row (movedP st n) = m at *
  cases hf : findP row m with
  | some k =>
    simp only
    obtain ⟨hk1, hk⟩ := findP_some hf
    have hkl := (List.getElem?_eq_some_iff.1 hk).1
    obtain ⟨q1, q2⟩ := same_place hR hk hm
    refine ⟨rsh, rsp, hR, fun j hj => ?_, fun j hj => ?_, fun j hj => ?_⟩
    all_goals rw [List.length_append, List.length_singleton] at hj
    all_goals
      rcases Nat.lt_or_ge j st.length with hlt | hge
      · rw [show (st ++ [k]).getD j 0 = st.getD j 0 by rw [List.getD_eq_getElem?_getD, List.getD_eq_getElem?_getD, List.getElem?_append_left hlt]]
        first | exact hst.lt j hlt | exact hst.sh j hlt | exact hst.sp j hlt
      · obtain rfl : j = st.length := by omega
        rw [show (st ++ [k]).getD st.length 0 = k by rw [List.getD_eq_getElem?_getD, List.getElem?_append_right (Nat.le_refl _), Nat.sub_self]; rfl]
        first | (rw [hR.lenS]; exact hkl) | exact q1 | (rw [q2]; exact ht)
  | none =>
    simp only
    have hR' := hR.snoc hm (by unfold tight at ht; omega) (by unfold tight at ht; omega)
    have l1 := hR.lenS
    have l2 := hR.lenP
    refine ⟨_, _, hR', fun j hj => ?_, fun j hj => ?_, fun j hj => ?_⟩
    all_goals rw [List.length_append, List.length_singleton] at hj
    all_goals
      rcases Nat.lt_or_ge j st.length with hlt | hge
      · have hlt2 := hst.lt j hlt
        rw [show (st ++ [row.length]).getD j 0 = st.getD j 0 by rw [List.getD_eq_getElem?_getD, List.getD_eq_getElem?_getD, List.getElem?_append_left hlt]]
        first | (rw [List.length_append]; omega) | (rw [gD_left (by omega)]; exact hst.sh j hlt) | (rw [gS_left (by omega)]; exact hst.sp j hlt)
      · obtain rfl : j = st.length := by omega
        rw [show (st ++ [row.length]).getD st.length 0 = row.length by rw [List.getD_eq_getElem?_getD, List.getElem?_append_right (Nat.le_refl _), Nat.sub_self]; rfl]
        first | (rw [List.length_append, List.length_singleton]; omega) | (rw [gD_last (by omega)]) | (rw [gS_last (by omega)]; exact ht)
theorem step_len (s : List Int) (x : List NodeP × List Nat) (n : NodeP) : (stepP s x n).2.length = x.2.length + 1 ∧ (stepP s x n).1.length ≤ x.1.length + 1 ∧ x.1.length ≤ (stepP s x n).1.length := by
  unfold stepP layP
  refine ⟨by simp, ?_, ?_⟩ <;> split <;> simp
end
end Go.Proofs.Ytdmkdogakbipbaa

/- ND -/
namespace Go.Proofs.Ytdmkdogakbipbaa
open Go.SX Go.RowKit
def tinyL (row : List NodeP) (m : NodeP) : List NodeP :=
  if m.kind = 6 then [row.getD m.a.toNat nilP, row.getD m.b.toNat nilP, ⟨m.kind, 0, 1, m.shape, m.lo, m.hi, m.size, m.data, m.bias⟩]
  else [row.getD m.a.toNat nilP, ⟨m.kind, 0, m.b, m.shape, m.lo, m.hi, m.size, m.data, m.bias⟩]
def tinyOut (m : NodeP) : Int := if m.kind = 6 then 2 else 1
theorem range_getD {l : List Int} {c : Nat} (hc : l.length = c) : ((List.range c).map fun o => l.getD o 0) = l := by
  subst hc
  apply List.ext_getElem
  · simp
  · intro i h1 h2
    simp only [List.getElem_map, List.getElem_range]
    rw [List.getD_eq_getElem?_getD, List.getElem?_eq_getElem h2]; rfl
theorem const_nums {p : NodeP} {sh known : List (List Int)} (h2 : p.kind = 2) (hd : (p.data.length : Int) = entries p.shape) (hs : sh.getD known.length [] = p.shape) : numsAt sh p.toV known = p.data := by
  have hk : p.toV.kind = 2 := h2
  have hl : ¬ isLin p.toV := by unfold isLin; omega
  unfold numsAt
  rw [hs]
  have e1 : numsA p.toV (entries p.shape).toNat (sh.getD p.toV.a.toNat []) (known.getD p.toV.a.toNat []) (known.getD p.toV.b.toNat []) = numsL p.toV (entries p.shape).toNat (known.getD p.toV.a.toNat []) (known.getD p.toV.b.toNat []) := if_neg hl
  rw [e1]
  have e2 : numAt p.toV (known.getD p.toV.a.toNat []) (known.getD p.toV.b.toNat []) = fun o => p.data.getD o 0 := by
    funext o
    unfold numAt
    rw [if_pos hk]; rfl
  unfold numsL
  rw [e2]
  exact range_getD (by omega)
theorem valsQ_pl {sh : List (List Int)} : ∀ {l m : List NodeV} {known inp : List (List Int)}, l.map NodeV.pl = m.map NodeV.pl → valsQ sh l known inp = valsQ sh m known inp
  | [], [], _, _, _ => rfl
  | [], _ :: _, _, _, h => by simp at h
  | _ :: _, [], _, _, h => by simp at h
  | x :: l, y :: m, known, inp, h => by
    simp only [List.map_cons, List.cons.injEq] at h
    have e : numsAt sh x known = numsAt sh y known := by
      have : ∀ z : NodeV, numsAt sh z known = numsAt sh z.pl.toV known := fun z => rfl
      rw [this x, this y, h.1]
    have ek : x.kind = y.kind := congrArg NodeP.kind h.1
    have el : x.lo = y.lo := congrArg NodeP.lo h.1
    have eh : x.hi = y.hi := congrArg NodeP.hi h.1
    unfold valsQ
    rw [e, ek, el, eh, valsQ_pl h.2]
    cases inp with
    | nil => rfl
    | cons z zs => simp only [valsQ_pl h.2]
theorem map_toV (row : List NodeP) : (row.map NodeP.toV).map NodeV.pl = row := by rw [List.map_map]; exact List.map_id row
section
variable {row : List NodeP} {rsh : List (List Int)} {rsp : List Sp}
theorem const_row (hR : RowOk row rsh rsp) {k : Nat} (hk : k < row.length) (h2 : (row.getD k nilP).kind = 2) {r : List NodeP} {sh : List (List Int)} {sp : List Sp} (h : RowOk r sh sp) : RowOk (r ++ [row.getD k nilP]) (sh ++ [gD rsh k]) (sp ++ [gS rsp k]) := by
  have hk' := getD_some hk
  obtain ⟨q1, q2, q3⟩ := hR.span k _ hk'
  have e : spanP (row.getD k nilP) (gD rsh k) sh sp = gS rsp k := by rw [q1, spanP_const h2, spanP_const h2]
  have := h.snoc (const_node (sh' := sh) (hR.node k _ hk') h2) (by rw [e]; exact q2) (by rw [e]; exact q3)
  rw [e] at this
  exact this
theorem tiny_ok (hR : RowOk row rsh rsp) {m : NodeP} {s : List Int} (hm : NodeIn m.toV rsh s) (hk : KnownIn row rsh rsp m s) (h1 : -1048576 ≤ (spanP m s rsh rsp).1) (h2 : (spanP m s rsh rsp).2 ≤ 1048576) {g : GraphV} (hg : g.l.map NodeV.pl = tinyL row m) (ho : g.out = tinyOut m) :
    (check g).1 = 0 ∧ gD (check g).2 g.out.toNat = s ∧ runH g [] = (0, numsP s row m) := by
  have hah := aheadP_of hm.form
  have R1 := const_row hR hk.aLt hk.aK RowOk.nil
  by_cases h6 : m.kind = 6
  · have R2 := const_row hR (hk.bLt h6) (hk.bK h6) R1
    have hn : NodeIn (atV m.toV 0 1) (([] ++ [gD rsh m.a.toNat]) ++ [gD rsh m.b.toNat]) s := by
      refine ⟨form_move (i := rsh.length) hm.form (fun _ _ => ⟨Int.le_refl _, by simp⟩) (fun h => absurd h (by show ¬ (m.kind = 1 ∨ m.kind = 2); omega)) (fun _ => ⟨by decide, by simp⟩) (fun h => absurd h6 h), ?_, ?_⟩
      · exact (shape_move (n := m.toV) (sh := rsh) (a := 0) (b := 1) (fun _ _ => rfl) (fun _ => rfl)).trans hm.shape
      · rw [near_move]; exact hm.near
    have e : spanP ⟨m.kind, 0, 1, m.shape, m.lo, m.hi, m.size, m.data, m.bias⟩ s (([] ++ [gD rsh m.a.toNat]) ++ [gD rsh m.b.toNat]) (([] ++ [gS rsp m.a.toNat]) ++ [gS rsp m.b.toNat]) = spanP m s rsh rsp := rfl
    have R3 := R2.snoc (m := ⟨m.kind, 0, 1, m.shape, m.lo, m.hi, m.size, m.data, m.bias⟩) hn (by rw [e]; exact h1) (by rw [e]; exact h2)
    unfold tinyL at hg
    unfold tinyOut at ho
    rw [if_pos h6] at hg ho
    have hc := R3.check (by simp) hg (by omega) (by rw [ho]; simp)
    have hs := R3.spans (by simp) hg (by omega) (by rw [ho]; simp)
    rw [hc, ho]
    refine ⟨rfl, rfl, ?_⟩
    have hv : valsH g [] = (0, [(row.getD m.a.toNat nilP).data, (row.getD m.b.toNat nilP).data, numsP s row m]) := by
      unfold valsH
      rw [hc]
      simp only
      rw [valsQ_pl (m := List.map NodeP.toV _) (hg.trans (map_toV _).symm)]
      simp only [List.map_cons, List.map_nil]
      have kA : (row.getD m.a.toNat nilP).toV.kind ≠ 1 := by show (row.getD m.a.toNat nilP).kind ≠ 1; rw [hk.aK]; decide
      have kB : (row.getD m.b.toNat nilP).toV.kind ≠ 1 := by show (row.getD m.b.toNat nilP).kind ≠ 1; rw [hk.bK h6]; decide
      have kM : (NodeP.toV ⟨m.kind, 0, 1, m.shape, m.lo, m.hi, m.size, m.data, m.bias⟩).kind ≠ 1 := hk.kind.1
      unfold valsQ
      rw [if_pos kA, const_nums hk.aK hk.aLen (by rw [← hk.aSh]; rfl)]
      unfold valsQ
      rw [if_pos kB, const_nums (hk.bK h6) (hk.bLen h6) (by rw [← hk.bSh h6]; rfl)]
      unfold valsQ
      rw [if_pos kM]
      have eN : numsAt (([] ++ [gD rsh m.a.toNat]) ++ [gD rsh m.b.toNat] ++ [s]) (NodeP.toV ⟨m.kind, 0, 1, m.shape, m.lo, m.hi, m.size, m.data, m.bias⟩) ([] ++ [(row.getD m.a.toNat nilP).data] ++ [(row.getD m.b.toNat nilP).data]) = numsP s row m := by
        unfold numsP
        rw [if_pos h6, ← hk.aSh]
        rfl
      rw [eN]
      unfold valsQ
      rw [if_neg (by simp)]
      rfl
    unfold runH
    rw [hs, hv, ho]
    rfl
  · have hn : NodeIn (atV m.toV 0 m.b) ([] ++ [gD rsh m.a.toNat]) s := by
      refine ⟨form_move (i := rsh.length) hm.form (fun _ _ => ⟨Int.le_refl _, by simp⟩) (fun h => absurd h (by show ¬ (m.kind = 1 ∨ m.kind = 2); have := hk.kind; omega)) (fun h => absurd h h6) (fun _ => rfl), ?_, ?_⟩
      · exact (shape_move (n := m.toV) (sh := rsh) (a := 0) (b := m.b) (fun _ _ => rfl) (fun h => absurd h h6)).trans hm.shape
      · rw [near_move]; exact hm.near
    have e : spanP ⟨m.kind, 0, m.b, m.shape, m.lo, m.hi, m.size, m.data, m.bias⟩ s ([] ++ [gD rsh m.a.toNat]) ([] ++ [gS rsp m.a.toNat]) = spanP m s rsh rsp := by
      unfold spanP
      exact congrArg spanE (ends_freeB (n := m.toV) h6 _ _ _ _ _)
    have R3 := R1.snoc (m := ⟨m.kind, 0, m.b, m.shape, m.lo, m.hi, m.size, m.data, m.bias⟩) hn (by rw [e]; exact h1) (by rw [e]; exact h2)
    unfold tinyL at hg
    unfold tinyOut at ho
    rw [if_neg h6] at hg ho
    have hc := R3.check (by simp) hg (by omega) (by rw [ho]; simp)
    have hs := R3.spans (by simp) hg (by omega) (by rw [ho]; simp)
    rw [hc, ho]
    refine ⟨rfl, rfl, ?_⟩
    have hv : valsH g [] = (0, [(row.getD m.a.toNat nilP).data, numsP s row m]) := by
      unfold valsH
      rw [hc]
      simp only
      rw [valsQ_pl (m := List.map NodeP.toV _) (hg.trans (map_toV _).symm)]
      simp only [List.map_cons, List.map_nil]
      have kA : (row.getD m.a.toNat nilP).toV.kind ≠ 1 := by show (row.getD m.a.toNat nilP).kind ≠ 1; rw [hk.aK]; decide
      have kM : (NodeP.toV ⟨m.kind, 0, m.b, m.shape, m.lo, m.hi, m.size, m.data, m.bias⟩).kind ≠ 1 := hk.kind.1
      unfold valsQ
      rw [if_pos kA, const_nums hk.aK hk.aLen (by rw [← hk.aSh]; rfl)]
      unfold valsQ
      rw [if_pos kM]
      have eN : numsAt (([] ++ [gD rsh m.a.toNat]) ++ [s]) (NodeP.toV ⟨m.kind, 0, m.b, m.shape, m.lo, m.hi, m.size, m.data, m.bias⟩) ([] ++ [(row.getD m.a.toNat nilP).data]) = numsP s row m := by
        unfold numsP
        rw [← hk.aSh]
        exact nums_freeB (n := m.toV) h6 _ _ _ _ _
      rw [eN]
      unfold valsQ
      rw [if_neg (by simp)]
      rfl
    unfold runH
    rw [hs, hv, ho]
    rfl
end
end Go.Proofs.Ytdmkdogakbipbaa

/- NF -/
namespace Go.Proofs.Ytdmkdogakbipbaa
abbrev dtNF0 : Go.SX.DT := (.take 0 (.take 1 (.take 2 (.take 3 (.take 4 (.take 5 (.take 6 (.take 7 (.take 12 (.take 13 (.take 16 (.alt 8 (.alt 9 (.alt 10 (.alt 11 (.alt 14 (.alt 15 (.one 17 (.one 18 (.one 19 (.done)))) (.one 17 (.one 15 (.one 18 (.one 19 (.done)))))) (.one 17 (.one 14 (.one 15 (.one 18 (.one 19 (.done))))))) (.one 17 (.one 11 (.one 14 (.one 15 (.one 18 (.one 19 (.done)))))))) (.one 17 (.one 10 (.one 11 (.one 14 (.one 15 (.one 18 (.one 19 (.done))))))))) (.one 17 (.one 9 (.one 10 (.one 11 (.one 14 (.one 15 (.one 18 (.one 19 (.done)))))))))) (.one 17 (.one 8 (.one 9 (.one 10 (.one 11 (.one 14 (.one 15 (.one 18 (.one 19 (.done))))))))))))))))))))))
abbrev dtNF1 : Go.SX.DT := (.take 0 (.take 1 (.take 2 (.take 3 (.take 4 (.take 5 (.take 6 (.take 7 (.take 8 (.one 9 (.done)))))))))))
abbrev dtNF2 : Go.SX.DT := (.take 0 (.take 1 (.take 2 (.take 3 (.take 8 (.take 9 (.take 10 (.take 11 (.alt 4 (.alt 5 (.take 6 (.take 7 (.one 12 (.one 13 (.take 14 (.take 15 (.one 16 (.one 17 (.one 18 (.one 19 (.done))))))))))) (.one 12 (.alt 5 (.take 6 (.take 7 (.one 13 (.take 14 (.take 15 (.one 16 (.one 17 (.one 18 (.one 19 (.done)))))))))) (.one 13 (.take 14 (.take 15 (.one 5 (.take 6 (.take 7 (.one 16 (.one 17 (.one 18 (.one 19 (.done)))))))))))))) (.one 12 (.alt 4 (.alt 5 (.take 6 (.take 7 (.one 13 (.take 14 (.take 15 (.one 16 (.one 17 (.one 18 (.one 19 (.done)))))))))) (.one 13 (.take 14 (.take 15 (.one 5 (.take 6 (.take 7 (.one 16 (.one 17 (.one 18 (.one 19 (.done)))))))))))) (.one 13 (.take 14 (.take 15 (.one 4 (.one 5 (.take 6 (.take 7 (.one 16 (.one 17 (.one 18 (.one 19 (.done)))))))))))))))))))))))
open Go.SX Go.RowKit
structure DeskAt (w : World) (b : Nat) (nb : Option Addr) (nc : Nat) (kept : List NodeV) (sb : Option Addr) (sc : Nat) (st : List Int) : Prop where
  c0 : w.cell? ⟨b, 0, none⟩ = some (.slice nb kept.length nc)
  c2 : w.cell? ⟨b, 2, none⟩ = some (.slice sb st.length sc)
  nodes : RowsI w nb 9 (nodeRows kept)
  st : RowsI w sb 1 (ints st)
theorem DeskAt.later {w w' : World} {R : Nat → Prop} {b : Nat} {nb : Option Addr} {nc : Nat} {kept : List NodeV} {sb : Option Addr} {sc : Nat} {st : List Int} (h : DeskAt w b nb nc kept sb sc st) (hb : (baseA w).holds R w') : DeskAt w' b nb nc kept sb sc st :=
  ⟨by rw [cell_same (hb _ (cell_block h.c0)).2]; exact h.c0, by rw [cell_same (hb _ (cell_block h.c2)).2]; exact h.c2, rows_base hb h.nodes, rows_base hb h.st⟩
theorem ro_cell {a : Addr} {S : Asn} {K : SV → Prop} {v : Value} (h : ∀ R w, S.holds R w → w.cell? a = some v) (hK : K (.c v)) : roK a S K := by rw [roK_def]; exact ⟨v, h, hK⟩
def stI (st : List Nat) : List Int := st.map Int.ofNat
theorem stI_get {st : List Nat} {k : Nat} (h : k < st.length) : (ints (stI st))[k]? = some [.int .i64 (st.getD k 0)] := by
  rw [ints_get (by unfold stI; simpa using h)]
  unfold stI
  rw [List.getD_eq_getElem?_getD, List.getElem?_eq_getElem h]
  simp
def movedV (st : List Nat) (n : NodeV) : NodeV := atV n (movedP st n.pl).a (movedP st n.pl).b
theorem movedV_pl (st : List Nat) (n : NodeV) : (movedV st n).pl = movedP st n.pl := by
  unfold movedV movedP
  split
  · rfl
  · split <;> rfl
section
variable {w : World} {b : Nat} {nb sb : Option Addr} {nc sc : Nat} {kept : List NodeV} {st : List Nat}
set_option maxRecDepth 20000 in
theorem moved_any (hd : DeskAt w b nb nc kept sb sc (stI st)) (n : NodeV) (hn : AheadP n.pl st.length) (hf : st.length ≤ 1000000) : Calls Try.prog 49 #[.pointer (some ⟨b, 0, none⟩), n.valA] w fun e w' => e = .returned (movedV st n).valA ∧ Ext w w' := by
  have hkk := hn.kind
  have kk : n.pl.kind = n.kind := rfl
  have ka : n.pl.a = n.a := rfl
  have kb : n.pl.b = n.b := rfl
  have ha0 := hn.a0
  have hb0 := hn.b0
  rw [kk] at hkk
  have hsl : (stI st).length = st.length := by unfold stI; simp
  by_cases h12 : n.kind = 1 ∨ n.kind = 2
  · have e : movedV st n = n := by unfold movedV movedP; rw [if_pos (show n.pl.kind = 1 ∨ n.pl.kind = 2 from h12)]; rfl
    rw [e]
    refine calls_of tab tabOk Try.func49 rfl rfl rfl [] (fun _ => ⟨none, 0⟩) [.c (.pointer (some ⟨b, 0, none⟩)), .agg [.c (.int .i64 n.kind), .c (.int .i64 n.a), .c (.int .i64 n.b), .c n.shape.val, .c (.int .i64 n.lo), .c (.int .i64 n.hi), .c (.int .i64 n.size), .c n.data.val, .c n.bias.val]] [] (baseA w) 0 rfl rfl (by show 2 ≤ _; decide) (abs_base w) ?_
    (repeat' ((conv => whnf) <;> first | (show drawK _ 6 _ _ _ _ _ _; refine draw_tree tabOk mixed [17, 19] _ dtNF0 (by kernel_rfl) (by kernel_rfl) (by kernel_rfl) (List.Sublist.refl _) ?_) | (show drawK _ 2 _ _ _ _ _ _; refine draw_tree tabOk mixed [9] _ dtNF1 (by kernel_rfl) (by kernel_rfl) (by kernel_rfl) (List.Sublist.refl _) ?_) | (show Wp _ _ _ _ _ _ _; refine Wp.go tabOk rfl ?_) | (show @cmpK _ _ _; (first | refine cmpY ?_ | refine cmpN ?_ | (refine cmp_both ?_ ?_ <;> intro _))) | (show wrapK _ _ _; refine wrapA ?_) | (show leK _ _ _; refine leA ?_) | (show roomK _ _ _; refine roomA ?_) | (show ltK _ _ _; refine ltA ?_) | (show _ ∧ _; refine ⟨?_, ?_⟩) | (show keepK _ _ _ _ _; refine keepA ?_) | refine own_keep ?_ | refine ap_old ?_))
    all_goals (conv => whnf)
    all_goals exact ends_of (fun _ _ h => h) (fun _ => rfl) rfl
  · have a1 := hn.a1 (by omega) (by omega)
    obtain ⟨sa, hsa⟩ : ∃ a, sb = some a := base_some (j := 0) hd.st (by rw [ints_length]; omega)
    by_cases h6 : n.kind = 6
    · have b1 := hn.b1 h6
      have e : movedV st n = atV n (st.getD n.a.toNat 0) (st.getD n.b.toNat 0) := by unfold movedV movedP; rw [if_neg (show ¬ (n.pl.kind = 1 ∨ n.pl.kind = 2) from h12), if_pos (show n.pl.kind = 6 from h6)]; rfl
      rw [e]
      refine calls_of tab tabOk Try.func49 rfl rfl rfl [] (fun _ => ⟨none, 0⟩) [.c (.pointer (some ⟨b, 0, none⟩)), .agg [.c (.int .i64 n.kind), .c (.int .i64 n.a), .c (.int .i64 n.b), .c n.shape.val, .c (.int .i64 n.lo), .c (.int .i64 n.hi), .c (.int .i64 n.size), .c n.data.val, .c n.bias.val]] [] (baseA w) 0 rfl rfl (by show 2 ≤ _; decide) (abs_base w) ?_
      (repeat' ((conv => whnf) <;> first | (show drawK _ 6 _ _ _ _ _ _; refine draw_tree tabOk mixed [] [] dtNF2 (by kernel_rfl) (by kernel_rfl) (by kernel_rfl) (List.nil_sublist _) ?_) | (show keepK _ _ _ _ _; refine keep_of (List.nil_sublist _) (fun _ _ h => h) ?_) | (show roK _ _ _; (first | refine ro_cell (fun R w' h => by simp only [add_none]; exact (hd.later h).c0) ?_ | refine ro_cell (fun R w' h => by simp only [add_none]; exact (hd.later h).c2) ?_)) | (show idxK _ _ _ _ _; (first | refine idx_of sa n.a.toNat hsa (by omega) (by omega) ?_ | refine idx_of sa n.b.toNat hsa (by omega) (by omega) ?_)) | (show roK _ _ _; (first | refine ro_row0 (fun R w' h => by rw [← hsa]; exact rows_base h hd.st) _ _ (stI_get a1) rfl ?_ | refine ro_row0 (fun R w' h => by rw [← hsa]; exact rows_base h hd.st) _ _ (stI_get b1) rfl ?_)) | (show drawK _ 2 _ _ _ _ _ _; refine draw_tree tabOk mixed [9] _ dtNF1 (by kernel_rfl) (by kernel_rfl) (by kernel_rfl) (List.Sublist.refl _) ?_) | (show Wp _ _ _ _ _ _ _; refine Wp.go tabOk rfl ?_) | (show @cmpK _ _ _; (first | refine cmpY ?_ | refine cmpN ?_ | (refine cmp_both ?_ ?_ <;> intro _))) | (show wrapK _ _ _; refine wrapA ?_) | (show leK _ _ _; refine leA ?_) | (show roomK _ _ _; refine roomA ?_) | (show ltK _ _ _; refine ltA ?_) | (show _ ∧ _; refine ⟨?_, ?_⟩) | (show keepK _ _ _ _ _; refine keepA ?_) | refine own_keep ?_ | refine ap_old ?_))
      all_goals (conv => whnf)
      all_goals exact ends_of (fun _ _ h => h) (fun _ => rfl) rfl
    · have e : movedV st n = atV n (st.getD n.a.toNat 0) n.b := by unfold movedV movedP; rw [if_neg (show ¬ (n.pl.kind = 1 ∨ n.pl.kind = 2) from h12), if_neg (show ¬ n.pl.kind = 6 from h6)]; rfl
      rw [e]
      refine calls_of tab tabOk Try.func49 rfl rfl rfl [] (fun _ => ⟨none, 0⟩) [.c (.pointer (some ⟨b, 0, none⟩)), .agg [.c (.int .i64 n.kind), .c (.int .i64 n.a), .c (.int .i64 n.b), .c n.shape.val, .c (.int .i64 n.lo), .c (.int .i64 n.hi), .c (.int .i64 n.size), .c n.data.val, .c n.bias.val]] [] (baseA w) 0 rfl rfl (by show 2 ≤ _; decide) (abs_base w) ?_
      (repeat' ((conv => whnf) <;> first | (show roK _ _ _; (first | refine ro_cell (fun R w' h => by simp only [add_none]; exact (hd.later h).c0) ?_ | refine ro_cell (fun R w' h => by simp only [add_none]; exact (hd.later h).c2) ?_)) | (show idxK _ _ _ _ _; refine idx_of sa n.a.toNat hsa (by omega) (by omega) ?_) | (show roK _ _ _; (refine ro_row0 (fun R w' h => by rw [← hsa]; exact rows_base h hd.st) _ _ (stI_get a1) rfl ?_)) | (show drawK _ 6 _ _ _ _ _ _; refine draw_tree tabOk mixed [17, 19] _ dtNF0 (by kernel_rfl) (by kernel_rfl) (by kernel_rfl) (List.Sublist.refl _) ?_) | (show drawK _ 2 _ _ _ _ _ _; refine draw_tree tabOk mixed [9] _ dtNF1 (by kernel_rfl) (by kernel_rfl) (by kernel_rfl) (List.Sublist.refl _) ?_) | (show Wp _ _ _ _ _ _ _; refine Wp.go tabOk rfl ?_) | (show @cmpK _ _ _; (first | refine cmpY ?_ | refine cmpN ?_ | (refine cmp_both ?_ ?_ <;> intro _))) | (show wrapK _ _ _; refine wrapA ?_) | (show leK _ _ _; refine leA ?_) | (show roomK _ _ _; refine roomA ?_) | (show ltK _ _ _; refine ltA ?_) | (show _ ∧ _; refine ⟨?_, ?_⟩) | (show keepK _ _ _ _ _; refine keepA ?_) | refine own_keep ?_ | refine ap_old ?_))
      all_goals (conv => whnf)
      all_goals exact ends_of (fun _ _ h => h) (fun _ => rfl) rfl
end
end Go.Proofs.Ytdmkdogakbipbaa

/- II -/
namespace Go.Proofs.Ytdmkdogakbipbaa
open Go.SX Go.RowKit
def inN (u : IntsV) (lo hi : Int) : NodeV := ⟨1, 0, 0, u, lo, hi, 0, nilI, nilI⟩
def powN (v : IntsV) : NodeV := ⟨8, 0, 0, nilI, 0, 0, 0, v, nilI⟩
def g2 (nb : Option Addr) (nc : Nat) (u v : IntsV) (lo hi : Int) : GraphV := ⟨nb, nc, [inN u lo hi, powN v], 1⟩
theorem c_span : Try.prog.cellsOf 68 = 2 := by kernel_rfl
theorem c_intI : Try.prog.cellsOf 3 = 1 := by kernel_rfl
theorem wf_ofI {x : Int} (h : i64 x) : (Lit.int .i64 x).wf = true := by
  simp [Lit.wf, IntKind.min, IntKind.max, IntKind.signed, IntKind.bits]
  exact ⟨h.1, by have := h.2; omega⟩
def spLits (s : Sp) : List Lit := [.int .i64 s.1, .int .i64 s.2]
theorem sp_lits (s : Sp) (h1 : i64 s.1) (h2 : i64 s.2) : Try.prog.keyLits 2 68 [.int .i64 s.1, .int .i64 s.2] = some (spLits s) := by
  simp [Program.keyLits, Try.underlying68, c_span, List.mapM_cons, Try.underlying3, c_intI, wf_ofI h1, wf_ofI h2]
  rfl
end Go.Proofs.Ytdmkdogakbipbaa

/- NI -/
namespace Go.Proofs.Ytdmkdogakbipbaa
open Go.SX Go.RowKit
theorem span_both {s t : Sp} (h1 : i64 s.1) (h2 : i64 s.2) (h3 : i64 t.1) (h4 : i64 t.2) {ox oy : Operand} {K : SV → Prop} (hy : s = t → K (.c (.bool true))) (hn : s ≠ t → K (.c (.bool false))) : pureK Try.prog (do eqGuard .eql 68 ox oy (spanV s) (spanV t); binOp .eql 68 (spanV s) (spanV t)) K := by
  have hK : K (.c (.bool (decide (s = t)))) := by
    by_cases h : s = t
    · rw [decide_eq_true h]; exact hy h
    · rw [decide_eq_false h]; exact hn h
  rw [pureK_def]
  refine ⟨_, fun w => ?_, hK⟩
  have g1 : (eqGuard .eql 68 ox oy (spanV s) (spanV t)).run Try.prog w = .ok () w := by
    have : Try.prog.eqGuardType Try.prog.depth 68 = false := by kernel_rfl
    simp [eqGuard, spanV, this]
  obtain ⟨r, q2, q3⟩ := run_equalIn_deep (P := Try.prog) 9998 2 68 (by kernel_rfl) w 2 2 (spanV s) (spanV t) (spLits s) (spLits t) (by simp [spanV, Value.formed, Try.underlying68, c_span]) (by simp [spanV, Value.formed, Try.underlying68, c_span]) (sp_lits s h1 h2) (sp_lits t h3 h4)
  have hr : r = decide (s = t) := by
    have e : spLits s = spLits t ↔ s = t := by
      obtain ⟨a, b⟩ := s
      obtain ⟨c, d⟩ := t
      simp [spLits]
    rw [e] at q3
    cases r with
    | true => exact (decide_eq_true (q3.1 rfl)).symm
    | false => exact (decide_eq_false (fun h => by have := q3.2 h; cases this)).symm
  subst hr
  have h5 : (Op.equal 68 (spanV s) (spanV t)).run Try.prog w = .ok (decide (s = t)) w := q2
  simp only [Sem.run_bind, g1, Result.andThen_ok]
  simp [spanV, binOp] at h5 ⊢
  rw [h5]; rfl
theorem sameSpan_any (w : World) (n : NodeV) : Calls Try.prog 106 #[n.valA] w fun e w' => e = .returned (spanV (n.lo, n.hi)) ∧ Ext w w' := by
  refine calls_of tab tabOk Try.func106 rfl rfl rfl [] (fun _ => ⟨none, 0⟩) [.agg [.c (.int .i64 n.kind), .c (.int .i64 n.a), .c (.int .i64 n.b), .c n.shape.val, .c (.int .i64 n.lo), .c (.int .i64 n.hi), .c (.int .i64 n.size), .c n.data.val, .c n.bias.val]] [] (baseA w) 0 rfl rfl (by show 1 ≤ _; decide) (abs_base w) ?_
  (repeat' ((conv => whnf) <;> first | (show Wp _ _ _ _ _ _ _; refine Wp.go tabOk rfl ?_) | (show @cmpK _ _ _; (first | refine cmpY ?_ | refine cmpN ?_ | (refine cmp_both ?_ ?_ <;> intro _))) | (show wrapK _ _ _; refine wrapA ?_) | (show leK _ _ _; refine leA ?_) | (show roomK _ _ _; refine roomA ?_) | (show ltK _ _ _; refine ltA ?_) | (show _ ∧ _; refine ⟨?_, ?_⟩) | (show keepK _ _ _ _ _; refine keepA ?_) | refine own_keep ?_ | refine ap_old ?_))
  all_goals (conv => whnf)
  all_goals exact ends_of (fun _ _ h => h) (fun _ => rfl) rfl
set_option maxRecDepth 20000 in
set_option maxHeartbeats 4000000 in
theorem tsame_any (w : World) (m n : NodeV) (hm : m.ok w) (hn : n.ok w) : Calls Try.prog 83 #[m.valA, n.valA] w fun e w' => e = .returned (.bool (sameP m.pl n.pl)) ∧ Ext w w' := by
  refine calls_of tab tabOk Try.func83 rfl rfl rfl [] (fun _ => ⟨none, 0⟩) [.agg [.c (.int .i64 m.kind), .c (.int .i64 m.a), .c (.int .i64 m.b), .c m.shape.val, .c (.int .i64 m.lo), .c (.int .i64 m.hi), .c (.int .i64 m.size), .c m.data.val, .c m.bias.val], .agg [.c (.int .i64 n.kind), .c (.int .i64 n.a), .c (.int .i64 n.b), .c n.shape.val, .c (.int .i64 n.lo), .c (.int .i64 n.hi), .c (.int .i64 n.size), .c n.data.val, .c n.bias.val]] [] (baseA w) 0 rfl rfl (by show 2 ≤ _; decide) (abs_base w) ?_
  (repeat' ((conv => whnf) <;> first | (show callQ _ 106 [.agg [.c (.int .i64 m.kind), .c (.int .i64 m.a), .c (.int .i64 m.b), .c m.shape.val, .c (.int .i64 m.lo), .c (.int .i64 m.hi), .c (.int .i64 m.size), .c m.data.val, .c m.bias.val]] _ _ _ _; refine callQ_of (f := 106) Try.call106 (spanV (m.lo, m.hi)) (fun ρ w' hw => sameSpan_any w' m) ?_) | (show callQ _ 106 [.agg [.c (.int .i64 n.kind), .c (.int .i64 n.a), .c (.int .i64 n.b), .c n.shape.val, .c (.int .i64 n.lo), .c (.int .i64 n.hi), .c (.int .i64 n.size), .c n.data.val, .c n.bias.val]] _ _ _ _; refine callQ_of (f := 106) Try.call106 (spanV (n.lo, n.hi)) (fun ρ w' hw => sameSpan_any w' n) ?_) | (show pureK _ _ _; ((refine span_both (s := (m.lo, m.hi)) (t := (n.lo, n.hi)) hm.loFits hm.hiFits hn.loFits hn.hiFits ?_ ?_ <;> intro _))) | (show callQ _ 107 [.c m.shape.val, .c n.shape.val] _ _ _ _; ((refine callQ_bool (f := 107) Try.call107 (decide (m.shape.xs = n.shape.xs)) (fun ρ w' hw => equal_any w' m.shape n.shape (holds_of_abs hw fun R h => hm.shape.later h) (holds_of_abs hw fun R h => hn.shape.later h)) ?_ ?_ <;> intro _))) | (show callQ _ 107 [.c m.data.val, .c n.data.val] _ _ _ _; ((refine callQ_bool (f := 107) Try.call107 (decide (m.data.xs = n.data.xs)) (fun ρ w' hw => equal_any w' m.data n.data (holds_of_abs hw fun R h => hm.data.later h) (holds_of_abs hw fun R h => hn.data.later h)) ?_ ?_ <;> intro _))) | (show callQ _ 107 [.c m.bias.val, .c n.bias.val] _ _ _ _; ((refine callQ_bool (f := 107) Try.call107 (decide (m.bias.xs = n.bias.xs)) (fun ρ w' hw => equal_any w' m.bias n.bias (holds_of_abs hw fun R h => hm.bias.later h) (holds_of_abs hw fun R h => hn.bias.later h)) ?_ ?_ <;> intro _))) | (show drawK _ _ _ _ _ _ _ _; refine draw_quiet tabOk mixed (by kernel_rfl) ?_) | (show Wp _ _ _ _ _ _ _; refine Wp.go tabOk rfl ?_) | (show @cmpK _ _ _; (first | refine cmpY ?_ | refine cmpN ?_ | (refine cmp_both ?_ ?_ <;> intro _))) | (show wrapK _ _ _; refine wrapA ?_) | (show leK _ _ _; refine leA ?_) | (show roomK _ _ _; refine roomA ?_) | (show ltK _ _ _; refine ltA ?_) | (show _ ∧ _; refine ⟨?_, ?_⟩) | (show keepK _ _ _ _ _; refine keepA ?_) | refine own_keep ?_ | refine ap_old ?_))
  all_goals (conv => whnf)
  all_goals exact ends_bool (fun _ _ h => h) rfl (by simp_all [sameP, NodeV.pl])
end Go.Proofs.Ytdmkdogakbipbaa

/- NJ -/
namespace Go.Proofs.Ytdmkdogakbipbaa
open Go.SX Go.RowKit
theorem layEq_any (w : World) (x n : NodeV) (c : Nat) (hx : x.ok w) (hn : n.ok w) (hc : RowsI w (some ⟨c, 0, none⟩) 9 (nodeRows [n])) : Calls Try.prog 82 #[x.valA, .pointer (some ⟨c, 0, none⟩)] w fun e w' => e = .returned (.bool (sameP x.pl n.pl)) ∧ Ext w w' := by
  refine calls_of tab tabOk Try.func82 rfl rfl rfl [] (fun _ => ⟨none, 0⟩) [.agg [.c (.int .i64 x.kind), .c (.int .i64 x.a), .c (.int .i64 x.b), .c x.shape.val, .c (.int .i64 x.lo), .c (.int .i64 x.hi), .c (.int .i64 x.size), .c x.data.val, .c x.bias.val], .c (.pointer (some ⟨c, 0, none⟩))] [] (baseA w) 0 rfl rfl (by show 2 ≤ _; decide) (abs_base w) ?_
  (repeat' ((conv => whnf) <;> first | (show roAggK _ _ _ _; refine roAgg_row (j := 0) (xs := nodeRows [n]) (fun R w' h => rows_base h hc) n.cells rfl rfl ?_) | (show callK _ 83 _ _ _ _ _; refine call_pure (f := 83) Try.call83 (.bool (sameP x.pl n.pl)) (fun ρ w' hw => tsame_any w' x n (holds_of_abs hw fun R h => hx.later h) (holds_of_abs hw fun R h => hn.later h)) ?_) | (show Wp _ _ _ _ _ _ _; refine Wp.go tabOk rfl ?_) | (show @cmpK _ _ _; (first | refine cmpY ?_ | refine cmpN ?_ | (refine cmp_both ?_ ?_ <;> intro _))) | (show wrapK _ _ _; refine wrapA ?_) | (show leK _ _ _; refine leA ?_) | (show roomK _ _ _; refine roomA ?_) | (show ltK _ _ _; refine ltA ?_) | (show _ ∧ _; refine ⟨?_, ?_⟩) | (show keepK _ _ _ _ _; refine keepA ?_) | refine own_keep ?_ | refine ap_old ?_))
  all_goals (conv => whnf)
  all_goals exact ends_bool (fun _ _ h => h) rfl rfl
def idxI (n : NodeP) (row : List NodeP) : Int := match idxP n row 0 with | some k => k | none => -1
theorem idxP_step {n p : NodeP} {r : List NodeP} {k : Nat} : idxP n (p :: r) k = if sameP p n = true then some k else idxP n r (k + 1) := rfl
set_option maxRecDepth 20000 in
theorem indexNode_any (w : World) (n : NodeV) (c : Nat) (hn : n.ok w) (hc : RowsI w (some ⟨c, 0, none⟩) 9 (nodeRows [n])) (nb : Option Addr) (nc : Nat) (kept : List NodeV) (hk : RowsI w nb 9 (nodeRows kept)) (hko : ∀ k ∈ kept, k.ok w) (hfew : kept.length ≤ 1000000) :
    Calls Try.prog 81 #[.slice nb kept.length nc, .func (.func 82) #[] #[.pointer (some ⟨c, 0, none⟩)]] w fun e w' => e = .returned (.int .i64 (idxI n.pl (kept.map NodeV.pl))) ∧ Ext w w' := by
  refine calls_of tab tabOk Try.func81 rfl rfl rfl [] (fun _ => ⟨none, 0⟩) [.c (.slice nb kept.length nc), .c (.func (.func 82) #[] #[.pointer (some ⟨c, 0, none⟩)])] [] (baseA w) 0 rfl rfl (by show 2 ≤ _; decide) (abs_base w) ?_
  (repeat' ((conv => whnf) <;> first | (show Wp _ _ _ _ _ _ _; refine Wp.go tabOk rfl ?_) | (show @cmpK _ _ _; (first | refine cmpY ?_ | refine cmpN ?_ | (refine cmp_both ?_ ?_ <;> intro _))) | (show wrapK _ _ _; refine wrapA ?_) | (show leK _ _ _; refine leA ?_) | (show roomK _ _ _; refine roomA ?_) | (show ltK _ _ _; refine ltA ?_) | (show _ ∧ _; refine ⟨?_, ?_⟩) | (show keepK _ _ _ _ _; refine keepA ?_) | refine own_keep ?_ | refine ap_old ?_))
  refine Wp.loop (σ := Nat) 0 (fun k => [(0, .c (.slice nb kept.length nc)), (1, .c (.func (.func 82) #[] #[.pointer (some ⟨c, 0, none⟩)])), (7, .c (.int .i64 kept.length)), (8, .c (.int .i64 k))]) (fun _ => []) (fun _ => baseA w)
    (fun k => k ≤ kept.length ∧ idxP n.pl ((kept.drop k).map NodeV.pl) k = idxP n.pl (kept.map NodeV.pl) 0) (fun k => kept.length - k) 0 [] (by decide) (fun s => ⟨rfl, rfl⟩) ⟨by simp, rfl⟩ ⟨rfl, ⟨rfl, rfl, rfl, rfl, trivial⟩, trivial, fun R w' h => h⟩ ?_
  rintro k ⟨hkl, he⟩
  by_cases hlt : k < kept.length
  · obtain ⟨a, ha⟩ : ∃ a, nb = some a := base_some (j := k) hk (by rw [nodeRows_length]; omega)
    rw [List.drop_eq_getElem_cons hlt, List.map_cons, idxP_step] at he
    have hrow := nodeRows_get hlt
    have hxo := hko _ (List.getElem_mem hlt)
    generalize kept[k] = x at *
    cases hs : sameP x.pl n.pl with
    | true =>
      rw [if_pos hs] at he
      (repeat' ((conv => whnf) <;> first | (show idxK _ _ _ _ _; refine idx_of a k ha rfl hlt ?_) | (show roAggK _ _ _ _; (refine roAgg_row (fun R w' h => by rw [← ha]; exact rows_base h hk) _ hrow rfl ?_)) | (show callK _ 82 _ _ _ _ _; (refine call_pure (f := 82) Try.call82 (.bool true) (fun ρ w' hw => by have := layEq_any w' x n c (holds_of_abs hw fun R h => hxo.later h) (holds_of_abs hw fun R h => hn.later h) (holds_of_abs hw fun R h => rows_base h hc); rw [hs] at this; exact this) ?_)) | (show Wp _ _ _ _ _ _ _; refine Wp.go tabOk rfl ?_) | (show @cmpK _ _ _; (first | refine cmpY ?_ | refine cmpN ?_ | (refine cmp_both ?_ ?_ <;> intro _))) | (show wrapK _ _ _; refine wrapA ?_) | (show leK _ _ _; refine leA ?_) | (show roomK _ _ _; refine roomA ?_) | (show ltK _ _ _; refine ltA ?_) | (show _ ∧ _; refine ⟨?_, ?_⟩) | (show keepK _ _ _ _ _; refine keepA ?_) | refine own_keep ?_ | refine ap_old ?_))
      all_goals (conv => whnf)
      all_goals exact ends_of (fun _ _ h => h) (fun _ => by unfold idxI; rw [← he]; rfl) rfl
    | false =>
      rw [if_neg (by rw [hs]; simp)] at he
      (repeat' ((conv => whnf) <;> first | (show idxK _ _ _ _ _; refine idx_of a k ha rfl hlt ?_) | (show roAggK _ _ _ _; (refine roAgg_row (fun R w' h => by rw [← ha]; exact rows_base h hk) _ hrow rfl ?_)) | (show callK _ 82 _ _ _ _ _; (refine call_pure (f := 82) Try.call82 (.bool false) (fun ρ w' hw => by have := layEq_any w' x n c (holds_of_abs hw fun R h => hxo.later h) (holds_of_abs hw fun R h => hn.later h) (holds_of_abs hw fun R h => rows_base h hc); rw [hs] at this; exact this) ?_)) | (show Wp _ _ _ _ _ _ _; refine Wp.go tabOk rfl ?_) | (show @cmpK _ _ _; (first | refine cmpY ?_ | refine cmpN ?_ | (refine cmp_both ?_ ?_ <;> intro _))) | (show wrapK _ _ _; refine wrapA ?_) | (show leK _ _ _; refine leA ?_) | (show roomK _ _ _; refine roomA ?_) | (show ltK _ _ _; refine ltA ?_) | (show _ ∧ _; refine ⟨?_, ?_⟩) | (show keepK _ _ _ _ _; refine keepA ?_) | refine own_keep ?_ | refine ap_old ?_))
      all_goals (conv => whnf)
      all_goals exact ⟨k + 1, [], ⟨hlt, he⟩, by omega, rfl, ⟨rfl, rfl, rfl, rfl, trivial⟩, trivial, fun R w' h => h⟩
  · rw [List.drop_of_length_le (by omega)] at he
    (repeat' ((conv => whnf) <;> first | (show Wp _ _ _ _ _ _ _; refine Wp.go tabOk rfl ?_) | (show @cmpK _ _ _; (first | refine cmpY ?_ | refine cmpN ?_ | (refine cmp_both ?_ ?_ <;> intro _))) | (show wrapK _ _ _; refine wrapA ?_) | (show leK _ _ _; refine leA ?_) | (show roomK _ _ _; refine roomA ?_) | (show ltK _ _ _; refine ltA ?_) | (show _ ∧ _; refine ⟨?_, ?_⟩) | (show keepK _ _ _ _ _; refine keepA ?_) | refine own_keep ?_ | refine ap_old ?_))
    conv => whnf
    exact ends_of (fun _ _ h => h) (fun _ => by unfold idxI; rw [← he]; rfl) rfl
end Go.Proofs.Ytdmkdogakbipbaa

/- NK -/
namespace Go.Proofs.Ytdmkdogakbipbaa
open Go.SX Go.RowKit
inductive Reach (row : List NodeP) : Nat → Nat → Prop
  | refl (k : Nat) : Reach row k k
  | step {k j : Nat} {t : Int} (h : Reach row k j) (ht : t ∈ takesP (row.getD j nilP)) : Reach row k t.toNat
theorem Reach.head {row : List NodeP} {k j : Nat} {t : Int} (ht : t ∈ takesP (row.getD k nilP)) (h : Reach row t.toNat j) : Reach row k j := by
  induction h with
  | refl => exact .step (.refl k) ht
  | step _ h2 ih => exact .step ih h2
def setM (s : Nat → Bool) : Int → Option Value := fun j => if 0 ≤ j ∧ s j.toNat = true then some (.bool true) else none
def setAdd (s : Nat → Bool) (k : Nat) : Nat → Bool := fun j => decide (j = k) || s j
theorem setM_put (s : Nat → Bool) (k : Nat) : mapPut (setM s) k (.bool true) = setM (setAdd s k) := by
  funext j
  unfold mapPut setM setAdd
  by_cases h : j = k
  · subst h; rw [if_pos rfl]; simp
  · rw [if_neg h]
    by_cases h0 : 0 ≤ j
    · have : j.toNat ≠ k := by omega
      simp [this, h0]
    · rw [if_neg (by omega), if_neg (by omega)]
theorem setM_get (s : Nat → Bool) (k : Nat) : (setM s k).getD (.bool false) = .bool (s k) := by
  unfold setM
  by_cases h : s k = true
  · rw [if_pos ⟨by omega, by simpa using h⟩, h]; rfl
  · rw [if_neg (by simpa using h)]
    have : s k = false := by simpa using h
    rw [this]; rfl
structure NeedR (row : List NodeP) (k : Nat) (s s' : Nat → Bool) : Prop where
  sub : ∀ j, s j = true → s' j = true
  at_ : s' k = true
  closed : ∀ j, s' j = true → s j = false → ∀ t ∈ takesP (row.getD j nilP), s' t.toNat = true
  reach : ∀ j, s' j = true → s j = false → Reach row k j
theorem NeedR.same {row : List NodeP} {k : Nat} {s : Nat → Bool} (h : s k = true) : NeedR row k s s :=
  ⟨fun _ h => h, h, fun j h1 h2 => (by rw [h1] at h2; cases h2), fun j h1 h2 => (by rw [h1] at h2; cases h2)⟩
theorem setAdd_same (s : Nat → Bool) (k : Nat) : setAdd s k k = true := by simp [setAdd]
theorem setAdd_of {s : Nat → Bool} {k j : Nat} (h : setAdd s k j = true) (hj : s j = false) : j = k := by
  unfold setAdd at h; rw [hj] at h; simpa using h
theorem NeedR.none {row : List NodeP} {k : Nat} {s : Nat → Bool} (h : takesP (row.getD k nilP) = []) : NeedR row k s (setAdd s k) :=
  ⟨fun j h => by unfold setAdd; rw [h]; simp, setAdd_same s k, fun j h1 h2 t ht => (by rw [setAdd_of h1 h2, h] at ht; cases ht), fun j h1 h2 => (by rw [setAdd_of h1 h2]; exact .refl k)⟩
theorem sub_add {s s1 : Nat → Bool} {k : Nat} (h : ∀ j, setAdd s k j = true → s1 j = true) : (∀ j, s j = true → s1 j = true) ∧ s1 k = true :=
  ⟨fun j hj => h j (by unfold setAdd; rw [hj]; simp), h k (setAdd_same s k)⟩
theorem NeedR.one {row : List NodeP} {k : Nat} {a : Int} {s s1 : Nat → Bool} (h : takesP (row.getD k nilP) = [a]) (h1 : NeedR row a.toNat (setAdd s k) s1) : NeedR row k s s1 := by
  obtain ⟨q1, q2⟩ := sub_add h1.sub
  have new : ∀ j, s j = false → j ≠ k → setAdd s k j = false := fun j hj hk => by unfold setAdd; rw [hj]; simp [hk]
  refine ⟨q1, q2, fun j hj hs t ht => ?_, fun j hj hs => ?_⟩
  · by_cases hjk : j = k
    · subst hjk; rw [h] at ht; simp at ht; subst ht; exact h1.at_
    · exact h1.closed j hj (new j hs hjk) t ht
  · by_cases hjk : j = k
    · subst hjk; exact .refl _
    · exact (h1.reach j hj (new j hs hjk)).head (by rw [h]; simp)
theorem NeedR.two {row : List NodeP} {k : Nat} {a b : Int} {s s1 s2 : Nat → Bool} (h : takesP (row.getD k nilP) = [a, b]) (h1 : NeedR row b.toNat (setAdd s k) s1) (h2 : NeedR row a.toNat s1 s2) : NeedR row k s s2 := by
  obtain ⟨q1, q2⟩ := sub_add h1.sub
  have new : ∀ j, s j = false → j ≠ k → setAdd s k j = false := fun j hj hk => by unfold setAdd; rw [hj]; simp [hk]
  refine ⟨fun j hj => h2.sub j (q1 j hj), h2.sub k q2, fun j hj hs t ht => ?_, fun j hj hs => ?_⟩
  · by_cases hjk : j = k
    · subst hjk; rw [h] at ht
      simp only [List.mem_cons, List.not_mem_nil, or_false] at ht
      rcases ht with rfl | rfl
      · exact h2.at_
      · exact h2.sub _ h1.at_
    · cases h3 : s1 j with
      | true => exact h2.sub _ (h1.closed j h3 (new j hs hjk) t ht)
      | false => exact h2.closed j hj h3 t ht
  · by_cases hjk : j = k
    · subst hjk; exact .refl _
    · cases h3 : s1 j with
      | true => exact (h1.reach j h3 (new j hs hjk)).head (by rw [h]; simp)
      | false => exact (h2.reach j hj h3).head (by rw [h]; simp)
theorem need_iff {row : List NodeP} {k : Nat} {s : Nat → Bool} (h : NeedR row k (fun _ => false) s) (j : Nat) : s j = true ↔ Reach row k j := by
  constructor
  · exact fun hj => h.reach j hj rfl
  · intro hr
    induction hr with
    | refl => exact h.at_
    | step _ ht ih => exact h.closed _ ih rfl _ ht
theorem DeskAt.rest {w w' : World} {R : Nat → Prop} {b r : Nat} {m : Int → Option Value} {nb : Option Addr} {nc : Nat} {kept : List NodeV} {sb : Option Addr} {sc : Nat} {st : List Int} (h : DeskAt w b nb nc kept sb sc st) (hm : mapHolds r m w) (hr : (restF w (fun x => x = r)).holds R w') : DeskAt w' b nb nc kept sb sc st :=
  ⟨cell_map hm h.c0 hr, cell_map hm h.c2 hr, rows_map hm h.nodes hr, rows_map hm h.st hr⟩
theorem info_bool : (Try.prog.info? 4).bind (·.zero) = some (.bool false) := by kernel_rfl
theorem look_set {H : Heap} {S : Asn} {i r : Nat} {s : Nat → Bool} {k : Nat} {K : SV → Prop} {B : Base} {n : Nat} {tb : List (Nat × TI)} (hi : (i, Ent.ext (mapO r (setM s))) ∈ H) {v : Bool} (hv : s k = v) (h : K (.c (.bool v))) : lookK ⟨Try.prog, B, n, tb⟩ 85 (.c (.map (some r))) (.c (.int .i64 k)) false H S K := by
  have hz := info_bool
  cases ht : Try.prog.info? 4 with
  | none => rw [ht] at hz; cases hz
  | some ti =>
    rw [ht] at hz
    refine look_of (z := .bool false) Try.underlying85 Try.underlying3 ht (by simpa using hz) hi ?_
    rw [if_neg (by decide), setM_get, hv]
    exact h
theorem put_set {H : Heap} {S : Asn} {i r : Nat} {s : Nat → Bool} {k : Nat} {K : Heap → Prop} {B : Base} {n : Nat} {tb : List (Nat × TI)} (hi : (i, Ent.ext (mapO r (setM s))) ∈ H) (h : setHK i (.ext (mapO r (setM (setAdd s k)))) K H) : mapPutK ⟨Try.prog, B, n, tb⟩ 85 (.c (.map (some r))) (.c (.int .i64 k)) (.c (.bool true)) H S K :=
  mapPut_of Try.underlying85 Try.underlying3 hi (by rw [setM_put]; exact h)
theorem need_ends {B : Base} {v : SV} {H : Heap} {S : Asn} {nx i : Nat} {w : World} {r : Nat} {s : Nat → Bool} {p : (Nat → Bool) → Prop} (hB : B = ⟨w, []⟩) (hS : ∀ R w', S.holds R w' → (restF w (fun x => x = r)).holds R w') (hi : (i, Ent.ext (mapO r (setM s))) ∈ H) (hv : ∀ ρ, v.rf ρ = .tuple #[]) (hp : p s) : finK B v H S nx (MapPost w r (fun _ => .tuple #[]) setM p) := by
  subst hB
  exact fin_of fun ρ w' hw => ⟨s, hp, by rw [hv], (map_end hw hS hi).1, (map_end hw hS hi).2⟩
set_option maxRecDepth 20000 in
set_option maxHeartbeats 1000000 in
theorem needed_any {b : Nat} {nb sb : Option Addr} {nc sc : Nat} {kept : List NodeV} {st : List Int} {rsh : List (List Int)} {rsp : List Sp} {r : Nat} (hR : RowOk (kept.map NodeV.pl) rsh rsp) : ∀ (N k : Nat), k < N → k < kept.length → ∀ (w : World) (s : Nat → Bool), DeskAt w b nb nc kept sb sc st → mapHolds r (setM s) w →
    Calls Try.prog 52 #[.pointer (some ⟨b, 0, none⟩), .int .i64 k, .map (some r)] w (MapPost w r (fun _ => .tuple #[]) setM (NeedR (kept.map NodeV.pl) k s))
  | 0, k, h, _, _, _, _, _ => absurd h (Nat.not_lt_zero _)
  | N + 1, k, hkN, hk, w, s, hd, hm => by
    have ih := needed_any (b := b) (nb := nb) (sb := sb) (nc := nc) (sc := sc) (st := st) (r := r) hR N
    cases hs : s k with
    | true =>
      refine calls_of tab tabOk Try.func52 rfl rfl rfl [] (fun _ => ⟨none, 0⟩) [.c (.pointer (some ⟨b, 0, none⟩)), .c (.int .i64 k), .c (.map (some r))] [(0, .ext (mapO r (setM s)))] (restF w (fun x => x = r)) 1 rfl rfl (by show 3 ≤ _; decide) (abs_map hm) ?_
      
      (repeat' ((conv => whnf) <;> first | (show lookK _ _ _ _ _ _ _ _; (refine look_set (by repeat (first | exact List.mem_cons_self | apply List.mem_cons_of_mem)) hs ?_)) | (show Wp _ _ _ _ _ _ _; refine Wp.go tabOk rfl ?_) | (show @cmpK _ _ _; (first | refine cmpY ?_ | refine cmpN ?_ | (refine cmp_both ?_ ?_ <;> intro _))) | (show wrapK _ _ _; refine wrapA ?_) | (show leK _ _ _; refine leA ?_) | (show roomK _ _ _; refine roomA ?_) | (show ltK _ _ _; refine ltA ?_) | (show _ ∧ _; refine ⟨?_, ?_⟩) | (show keepK _ _ _ _ _; refine keepA ?_) | refine own_keep ?_ | refine ap_old ?_))
      all_goals (conv => whnf)
      all_goals exact need_ends rfl (fun _ _ h => h) (by repeat (first | exact List.mem_cons_self | apply List.mem_cons_of_mem)) (fun _ => rfl) (NeedR.same hs)
    | false =>
      have hkr : k < (kept.map NodeV.pl).length := by rw [List.length_map]; exact hk
      have hah := hR.ahead (getD_some hkr)
      have hrk : (kept.map NodeV.pl).getD k nilP = kept[k].pl := by rw [List.getD_eq_getElem?_getD, List.getElem?_map, List.getElem?_eq_getElem hk]; rfl
      rw [hrk] at hah
      have hrow := nodeRows_get hk
      obtain ⟨na, hna⟩ : ∃ a, nb = some a := base_some (j := k) hd.nodes (by rw [nodeRows_length]; omega)
      generalize kept[k] = n at *
      have kk : n.pl.kind = n.kind := rfl
      have ka : n.pl.a = n.a := rfl
      have kb : n.pl.b = n.b := rfl
      have ha0 := hah.a0
      have hb0 := hah.b0
      have ha1 := hah.a1
      have hb1 := hah.b1
      rw [kk] at ha1 hb1
      rw [ka] at ha0 ha1
      rw [kb] at hb0 hb1
      have ihz : ∀ (a : Int) (s' : Nat → Bool), 0 ≤ a → a.toNat < k → ∀ w', DeskAt w' b nb nc kept sb sc st → mapHolds r (setM s') w' → Calls Try.prog 52 #[.pointer (some ⟨b, 0, none⟩), .int .i64 a, .map (some r)] w' (MapPost w' r (fun _ => .tuple #[]) setM (NeedR (kept.map NodeV.pl) a.toNat s')) := fun a s' h0 h1 w' g1 g2 => by
        have := ih a.toNat (by omega) (by omega) w' s' g1 g2
        rwa [Int.toNat_of_nonneg h0] at this
      refine calls_of tab tabOk Try.func52 rfl rfl rfl [] (fun _ => ⟨none, 0⟩) [.c (.pointer (some ⟨b, 0, none⟩)), .c (.int .i64 k), .c (.map (some r))] [(0, .ext (mapO r (setM s)))] (restF w (fun x => x = r)) 1 rfl rfl (by show 3 ≤ _; decide) (abs_map hm) ?_
      
      by_cases h12 : n.kind = 1 ∨ n.kind = 2
      · have ht : takesP ((kept.map NodeV.pl).getD k nilP) = [] := by rw [hrk]; unfold takesP; rw [if_pos (show n.pl.kind = 1 ∨ n.pl.kind = 2 from h12)]
        (repeat' ((conv => whnf) <;> first | (show lookK _ _ _ _ _ _ _ _; (refine look_set (by repeat (first | exact List.mem_cons_self | apply List.mem_cons_of_mem)) hs ?_)) | (show mapPutK _ _ _ _ _ _ _ _; (refine put_set (by repeat (first | exact List.mem_cons_self | apply List.mem_cons_of_mem)) ?_)) | (show roK _ _ _; (refine ro_cell (fun R w' h => by simp only [add_none]; exact (hd.rest hm h).c0) ?_)) | (show idxK _ _ _ _ _; refine idx_of na k hna rfl hk ?_) | (show roAggK _ _ _ _; (refine roAgg_row (fun R w' h => by rw [← hna]; exact rows_map hm hd.nodes h) _ hrow rfl ?_)) | (show Wp _ _ _ _ _ _ _; refine Wp.go tabOk rfl ?_) | (show @cmpK _ _ _; (first | refine cmpY ?_ | refine cmpN ?_ | (refine cmp_both ?_ ?_ <;> intro _))) | (show wrapK _ _ _; refine wrapA ?_) | (show leK _ _ _; refine leA ?_) | (show roomK _ _ _; refine roomA ?_) | (show ltK _ _ _; refine ltA ?_) | (show _ ∧ _; refine ⟨?_, ?_⟩) | (show keepK _ _ _ _ _; refine keepA ?_) | refine own_keep ?_ | refine ap_old ?_))
        all_goals (conv => whnf)
        all_goals exact need_ends rfl (fun _ _ h => h) (by repeat (first | exact List.mem_cons_self | apply List.mem_cons_of_mem)) (fun _ => rfl) (NeedR.none ht)
      · by_cases h6 : n.kind = 6
        · have ht : takesP ((kept.map NodeV.pl).getD k nilP) = [n.a, n.b] := by rw [hrk]; unfold takesP; rw [if_neg (show ¬ (n.pl.kind = 1 ∨ n.pl.kind = 2) from h12), if_pos (show n.pl.kind = 6 from h6)]; rfl
          (repeat' ((conv => whnf) <;> first | (show lookK _ _ _ _ _ _ _ _; (refine look_set (by repeat (first | exact List.mem_cons_self | apply List.mem_cons_of_mem)) hs ?_)) | (show mapPutK _ _ _ _ _ _ _ _; (refine put_set (by repeat (first | exact List.mem_cons_self | apply List.mem_cons_of_mem)) ?_)) | (show roK _ _ _; (refine ro_cell (fun R w' h => by simp only [add_none]; exact (hd.rest hm h).c0) ?_)) | (show idxK _ _ _ _ _; refine idx_of na k hna rfl hk ?_) | (show roAggK _ _ _ _; (refine roAgg_row (fun R w' h => by rw [← hna]; exact rows_map hm hd.nodes h) _ hrow rfl ?_)) | (show callK _ 52 [_, .c (.int .i64 n.b), _] _ _ _ _; (refine call_map (by repeat (first | exact List.mem_cons_self | apply List.mem_cons_of_mem)) Try.call52 (fun _ => .tuple #[]) setM (NeedR (kept.map NodeV.pl) n.b.toNat (setAdd s k)) (fun ρ w' hw hm' => ihz n.b (setAdd s k) hb0 (hb1 h6) w' (holds_of_abs hw fun R h => hd.rest hm h) hm') (fun s1 h1 => ?_))) | (show callK _ 52 [_, .c (.int .i64 n.a), _] _ _ _ _; (refine call_map (by repeat (first | exact List.mem_cons_self | apply List.mem_cons_of_mem)) Try.call52 (fun _ => .tuple #[]) setM (NeedR (kept.map NodeV.pl) n.a.toNat s1) (fun ρ w' hw hm' => ihz n.a s1 ha0 (ha1 (by omega) (by omega)) w' (holds_of_abs hw fun R h => hd.rest hm h) hm') (fun s2 h2 => ?_))) | (show Wp _ _ _ _ _ _ _; refine Wp.go tabOk rfl ?_) | (show @cmpK _ _ _; (first | refine cmpY ?_ | refine cmpN ?_ | (refine cmp_both ?_ ?_ <;> intro _))) | (show wrapK _ _ _; refine wrapA ?_) | (show leK _ _ _; refine leA ?_) | (show roomK _ _ _; refine roomA ?_) | (show ltK _ _ _; refine ltA ?_) | (show _ ∧ _; refine ⟨?_, ?_⟩) | (show keepK _ _ _ _ _; refine keepA ?_) | refine own_keep ?_ | refine ap_old ?_))
          all_goals (conv => whnf)
          all_goals exact need_ends rfl (fun _ _ h => h) (by repeat (first | exact List.mem_cons_self | apply List.mem_cons_of_mem)) (fun _ => rfl) (NeedR.two ht h1 h2)
        · have ht : takesP ((kept.map NodeV.pl).getD k nilP) = [n.a] := by rw [hrk]; unfold takesP; rw [if_neg (show ¬ (n.pl.kind = 1 ∨ n.pl.kind = 2) from h12), if_neg (show ¬ n.pl.kind = 6 from h6)]; rfl
          (repeat' ((conv => whnf) <;> first | (show lookK _ _ _ _ _ _ _ _; (refine look_set (by repeat (first | exact List.mem_cons_self | apply List.mem_cons_of_mem)) hs ?_)) | (show mapPutK _ _ _ _ _ _ _ _; (refine put_set (by repeat (first | exact List.mem_cons_self | apply List.mem_cons_of_mem)) ?_)) | (show roK _ _ _; (refine ro_cell (fun R w' h => by simp only [add_none]; exact (hd.rest hm h).c0) ?_)) | (show idxK _ _ _ _ _; refine idx_of na k hna rfl hk ?_) | (show roAggK _ _ _ _; (refine roAgg_row (fun R w' h => by rw [← hna]; exact rows_map hm hd.nodes h) _ hrow rfl ?_)) | (show callK _ 52 [_, .c (.int .i64 n.a), _] _ _ _ _; (refine call_map (by repeat (first | exact List.mem_cons_self | apply List.mem_cons_of_mem)) Try.call52 (fun _ => .tuple #[]) setM (NeedR (kept.map NodeV.pl) n.a.toNat (setAdd s k)) (fun ρ w' hw hm' => ihz n.a (setAdd s k) ha0 (ha1 (by omega) (by omega)) w' (holds_of_abs hw fun R h => hd.rest hm h) hm') (fun s1 h1 => ?_))) | (show Wp _ _ _ _ _ _ _; refine Wp.go tabOk rfl ?_) | (show @cmpK _ _ _; (first | refine cmpY ?_ | refine cmpN ?_ | (refine cmp_both ?_ ?_ <;> intro _))) | (show wrapK _ _ _; refine wrapA ?_) | (show leK _ _ _; refine leA ?_) | (show roomK _ _ _; refine roomA ?_) | (show ltK _ _ _; refine ltA ?_) | (show _ ∧ _; refine ⟨?_, ?_⟩) | (show keepK _ _ _ _ _; refine keepA ?_) | refine own_keep ?_ | refine ap_old ?_))
          all_goals (conv => whnf)
          all_goals exact need_ends rfl (fun _ _ h => h) (by repeat (first | exact List.mem_cons_self | apply List.mem_cons_of_mem)) (fun _ => rfl) (NeedR.one ht h1)
end Go.Proofs.Ytdmkdogakbipbaa

/- NL -/
namespace Go.Proofs.Ytdmkdogakbipbaa
open Go.SX Go.RowKit
def intsT (u : IntsV) : Asn where
  holds R w := u.xs = [] ∨ ∃ b off c, u.base = some ⟨b, off, none⟩ ∧ R b ∧ w.heap[b]? = some (.cells c 3 (0, 0)) ∧ off + u.xs.length ≤ c.size ∧ ∀ (i : Nat) (v : Int), u.xs[i]? = some v → c[off + i]? = some (.int .i64 v)
  stable := by
    intro R R' w w' hR hw h
    rcases h with h | ⟨b, off, c, h1, h2, h3, h4⟩
    · exact .inl h
    · exact .inr ⟨b, off, c, h1, hR b h2, by rw [hw b h2]; exact h3, h4⟩
theorem intsT_A {u : IntsV} {R : Nat → Prop} {w : World} (h : (intsT u).holds R w) : (intsA u).holds R w := by
  refine ⟨ints_row, ?_⟩
  rcases h with h | ⟨b, off, c, h1, h2, h3, h4, h5⟩
  · left; rw [h]; rfl
  · refine .inr ⟨b, off, h1, h2, fun i r hi j v hj => ?_⟩
    have hil : i < u.xs.length := by have := (List.getElem?_eq_some_iff.1 hi).1; rwa [ints_length] at this
    rw [ints_get hil] at hi
    simp only [Option.some.injEq] at hi
    subst hi
    cases j with
    | zero =>
      simp only [List.getElem?_cons_zero, Option.some.injEq] at hj
      subst hj
      have := h5 i _ (List.getElem?_eq_getElem hil)
      simp [World.cell?, h3, this]
    | succ j => simp at hj
theorem newIntsT {w w' : World} {v : Value} {xs : List Int} (h : NewRows w w' v 1 3 (ints xs)) (hf : ∀ x ∈ xs, i64 x) (hl : xs.length ≤ 1000000) :
    ∃ u : IntsV, u.xs = xs ∧ u.sane ∧ v = u.val ∧ (intsT u).holds (fun b => w.heap.size ≤ b ∧ b < w'.heap.size) w' := by
  obtain ⟨l, e2, F, hF, hr, hcap, hent⟩ := h
  refine ⟨⟨l.base, l.cap, xs⟩, rfl, ⟨hf, by rw [ints_length] at hcap; exact hcap, hl⟩, by rw [e2]; simp [IntsV.val, ints_length], ?_⟩
  rw [ints_length] at hcap
  rcases hent with ⟨h1, h2, _⟩ | ⟨b, off, c, h1, h2, h3, h4, h5⟩
  · exact .inl (List.eq_nil_of_length_eq_zero (by show xs.length = 0; omega))
  · refine .inr ⟨b, off, c, h1, ⟨hF b ((h2 b).2 rfl), lt_size_of_some h3⟩, h3, by show off + xs.length ≤ c.size; omega, fun i v hi => ?_⟩
    have hil := (List.getElem?_eq_some_iff.1 hi).1
    have hrow := ints_get (xs := xs) (k := i) hil
    have := h5 i _ hrow 0 _ rfl
    have e : xs[i] = v := by
      have h0 := List.getElem?_eq_getElem (l := xs) hil
      have hi' : xs[i]? = some v := hi
      rw [h0] at hi'; simpa using hi'
    rw [e] at this
    simpa using this
def ClonePost (w : World) (xs : List Int) (e : Ending) (w' : World) : Prop :=
  ∃ u : IntsV, (u.xs = xs ∧ u.sane) ∧ e = .returned u.val ∧ Ext w w' ∧ (intsT u).holds (fun b => w.heap.size ≤ b ∧ b < w'.heap.size) w'
set_option maxRecDepth 20000 in
theorem cloneT_any (w : World) (x : IntsV) (hx : x.ok w) : Calls Try.prog 48 #[x.val] w (ClonePost w x.xs) := by
  by_cases hl : 0 < x.xs.length
  · refine (clone_any w x hx hl).mono ?_
    rintro e w' ⟨v, rfl, he, hn⟩
    obtain ⟨u, h1, h2, h3, h4⟩ := newIntsT hn hx.fits hx.few
    exact ⟨u, ⟨h1, h2⟩, by rw [h3], he, h4⟩
  · obtain ⟨xb, xc, xs⟩ := x
    obtain rfl : xs = [] := List.eq_nil_of_length_eq_zero (by show xs.length = 0; have : ¬ 0 < xs.length := hl; omega)
    cases xb with
    | none =>
      refine calls_of tab tabOk Try.func48 rfl rfl rfl [] (fun _ => ⟨none, 0⟩) [.c (.slice none 0 xc)] [] (baseA w) 0 rfl rfl (by show 1 ≤ _; decide) (abs_base w) ?_
      (repeat' ((conv => whnf) <;> first | refine slice_nil_eql (ti 33 rfl) rfl ?_ | (show Wp _ _ _ _ _ _ _; refine Wp.go tabOk rfl ?_) | (show @cmpK _ _ _; (first | refine cmpY ?_ | refine cmpN ?_ | (refine cmp_both ?_ ?_ <;> intro _))) | (show wrapK _ _ _; refine wrapA ?_) | (show leK _ _ _; refine leA ?_) | (show roomK _ _ _; refine roomA ?_) | (show ltK _ _ _; refine ltA ?_) | (show _ ∧ _; refine ⟨?_, ?_⟩) | (show keepK _ _ _ _ _; refine keepA ?_) | refine own_keep ?_ | refine ap_old ?_))
      all_goals (conv => whnf)
      all_goals exact fin_of fun ρ w' hw => ⟨nilI, ⟨rfl, fun x hx => by simp [nilI] at hx, Nat.le_refl _, Nat.zero_le _⟩, rfl, ext_of_abs hw (fun _ _ h => h), .inl rfl⟩
    | some a =>
      have hc : Calls Try.prog 48 #[.slice (some a) 0 xc] w fun e w' => ∃ v, e = .returned v ∧ Ext w w' ∧ NewRows w w' v 1 3 (ints []) := by
        refine calls_of tab tabOk Try.func48 rfl rfl rfl [] (fun _ => ⟨none, 0⟩) [.c (.slice (some a) 0 xc)] [] (baseA w) 0 rfl rfl (by show 1 ≤ _; decide) (abs_base w) ?_
        (repeat' ((conv => whnf) <;> first | refine slice_nil_eql (ti 33 rfl) rfl ?_ | refine roRows_in (xs := ints []) rfl (fun R w' h => .inl rfl) ints_row ?_ | (show roomK _ _ _; refine room_of (of_decide_eq_true rfl) ?_) | (show leK _ _ _; refine le_of (of_decide_eq_true rfl) ?_) | (show Wp _ _ _ _ _ _ _; refine Wp.go tabOk rfl ?_) | (show @cmpK _ _ _; (first | refine cmpY ?_ | refine cmpN ?_ | (refine cmp_both ?_ ?_ <;> intro _))) | (show wrapK _ _ _; refine wrapA ?_) | (show leK _ _ _; refine leA ?_) | (show roomK _ _ _; refine roomA ?_) | (show ltK _ _ _; refine ltA ?_) | (show _ ∧ _; refine ⟨?_, ?_⟩) | (show keepK _ _ _ _ _; refine keepA ?_) | refine own_keep ?_ | refine ap_old ?_))
        all_goals (conv => whnf)
        all_goals exact ends_rows (fun _ _ h => h) rfl (.head _) rfl
      refine hc.mono ?_
      rintro e w' ⟨v, rfl, he, hn⟩
      obtain ⟨u, h1, h2, h3, h4⟩ := newIntsT hn (fun x hx => by simp at hx) (Nat.zero_le _)
      exact ⟨u, ⟨h1, h2⟩, by rw [h3], he, h4⟩
end Go.Proofs.Ytdmkdogakbipbaa

/- NM -/
namespace Go.Proofs.Ytdmkdogakbipbaa
open Go.SX Go.RowKit
def marks (ts : List Int) (nd : List Bool) : List Bool := ts.foldl (fun nd t => nd.set t.toNat true) nd
def sweep (row : List NodeP) : Nat → List Bool → List Bool
  | 0, nd => nd
  | i + 1, nd => sweep row i (if nd.getD i false = true then marks (takesP (row.getD i nilP)) nd else nd)
def needL (row : List NodeP) (out : Nat) : List Bool := sweep row row.length ((List.replicate row.length false).set out true)
def needB (row : List NodeP) (out : Nat) : Nat → Bool := fun j => (needL row out).getD j false
theorem marks_length (ts : List Int) : ∀ nd : List Bool, (marks ts nd).length = nd.length := by
  induction ts with
  | nil => intro nd; rfl
  | cons t r ih => intro nd; unfold marks at ih ⊢; rw [List.foldl_cons, ih]; simp
theorem set_getD {nd : List Bool} {k j : Nat} (hk : k < nd.length) : (nd.set k true).getD j false = if j = k then true else nd.getD j false := by
  rw [List.getD_eq_getElem?_getD, List.getElem?_set]
  by_cases h : k = j
  · subst h; rw [if_pos rfl, if_pos hk, if_pos rfl]; rfl
  · rw [if_neg h, if_neg (fun e => h e.symm), List.getD_eq_getElem?_getD]
theorem marks_get : ∀ {ts : List Int} {nd : List Bool} {j : Nat}, (∀ t ∈ ts, t.toNat < nd.length) → ((marks ts nd).getD j false = true ↔ nd.getD j false = true ∨ ∃ t ∈ ts, j = t.toNat)
  | [], nd, j, _ => by simp [marks]
  | t :: r, nd, j, h => by
    have ht := h t List.mem_cons_self
    have ih := marks_get (ts := r) (nd := nd.set t.toNat true) (j := j) (fun u hu => by rw [List.length_set]; exact h u (List.mem_cons_of_mem _ hu))
    have e : marks (t :: r) nd = marks r (nd.set t.toNat true) := rfl
    rw [e, ih, set_getD ht]
    constructor
    · rintro (h1 | ⟨u, hu, rfl⟩)
      · split at h1
        · rename_i hj; exact .inr ⟨t, List.mem_cons_self, hj⟩
        · exact .inl h1
      · exact .inr ⟨u, List.mem_cons_of_mem _ hu, rfl⟩
    · rintro (h1 | ⟨u, hu, rfl⟩)
      · left; split
        · rfl
        · exact h1
      · rcases List.mem_cons.1 hu with rfl | hu
        · left; rw [if_pos rfl]
        · exact .inr ⟨u, hu, rfl⟩
theorem takes_lt {row : List NodeP} {k : Nat} (h : AheadP (row.getD k nilP) k) : ∀ t ∈ takesP (row.getD k nilP), t.toNat < k := by
  intro t ht
  unfold takesP at ht
  split at ht
  · simp at ht
  · rename_i h12
    split at ht
    · rename_i h6
      simp only [List.mem_cons, List.not_mem_nil, or_false] at ht
      rcases ht with rfl | rfl
      · exact h.a1 (by omega) (by omega)
      · exact h.b1 h6
    · simp only [List.mem_singleton] at ht
      subst ht
      exact h.a1 (by omega) (by omega)
structure Swept (row : List NodeP) (out i : Nat) (nd : List Bool) : Prop where
  len : nd.length = row.length
  reach : ∀ j, nd.getD j false = true → Reach row out j
  closed : ∀ j, i ≤ j → nd.getD j false = true → ∀ t ∈ takesP (row.getD j nilP), nd.getD t.toNat false = true
  out : nd.getD out false = true
theorem sweep_ok {row : List NodeP} {out : Nat} (ha : ∀ k, k < row.length → AheadP (row.getD k nilP) k) : ∀ (i : Nat) (nd : List Bool), i ≤ row.length → Swept row out i nd → Swept row out 0 (sweep row i nd)
  | 0, nd, _, h => h
  | i + 1, nd, hi, h => by
    unfold sweep
    refine sweep_ok ha i _ (by omega) ?_
    by_cases hb : nd.getD i false = true
    · rw [if_pos hb]
      have hlt := takes_lt (ha i (by omega))
      have hl : ∀ t ∈ takesP (row.getD i nilP), t.toNat < nd.length := fun t ht => by have := hlt t ht; rw [h.len]; omega
      have hm : ∀ j, ((marks (takesP (row.getD i nilP)) nd).getD j false = true ↔ nd.getD j false = true ∨ ∃ t ∈ takesP (row.getD i nilP), j = t.toNat) := fun j => marks_get hl
      refine ⟨by rw [marks_length, h.len], fun j hj => ?_, fun j hij hj t ht => ?_, (hm _).2 (.inl h.out)⟩
      · rcases (hm j).1 hj with h1 | ⟨t, ht, rfl⟩
        · exact h.reach j h1
        · exact .step (h.reach i hb) ht
      · by_cases hji : j = i
        · subst hji; exact (hm _).2 (.inr ⟨t, ht, rfl⟩)
        · rcases (hm j).1 hj with h1 | ⟨u, hu, rfl⟩
          · exact (hm _).2 (.inl (h.closed j (by omega) h1 t ht))
          · have := hlt u hu; omega
    · rw [if_neg hb]
      refine ⟨h.len, h.reach, fun j hij hj t ht => ?_, h.out⟩
      by_cases hji : j = i
      · subst hji; exact absurd hj hb
      · exact h.closed j (by omega) hj t ht
theorem needL_ok {row : List NodeP} {out : Nat} (ha : ∀ k, k < row.length → AheadP (row.getD k nilP) k) (ho : out < row.length) : Swept row out 0 (needL row out) := by
  have h0 : ∀ j, ((List.replicate row.length false).set out true).getD j false = true → j = out := fun j hj => by
    rw [set_getD (by simpa using ho)] at hj
    split at hj
    · assumption
    · rw [List.getD_eq_getElem?_getD, List.getElem?_replicate] at hj
      split at hj <;> simp at hj
  refine sweep_ok ha row.length _ (Nat.le_refl _) ⟨by simp, fun j hj => by rw [h0 j hj]; exact .refl _, fun j hij hj => by have := h0 j hj; omega, by rw [set_getD (by simpa using ho), if_pos rfl]⟩
theorem need_reach {row : List NodeP} {out : Nat} (ha : ∀ k, k < row.length → AheadP (row.getD k nilP) k) (ho : out < row.length) (j : Nat) : needB row out j = true ↔ Reach row out j := by
  have h := needL_ok ha ho
  constructor
  · exact h.reach j
  · intro hr
    induction hr with
    | refl => exact h.out
    | step _ ht ih => exact h.closed _ (Nat.zero_le _) ih _ ht
theorem need_set {row : List NodeP} {out : Nat} {s : Nat → Bool} (ha : ∀ k, k < row.length → AheadP (row.getD k nilP) k) (ho : out < row.length) (h : NeedR row out (fun _ => false) s) : s = needB row out := by
  funext j
  have h1 := need_iff h j
  have h2 := need_reach ha ho j
  cases hs : s j <;> cases hn : needB row out j <;> simp_all
theorem RowOk.aheads {row : List NodeP} {rsh : List (List Int)} {rsp : List Sp} (h : RowOk row rsh rsp) : ∀ k, k < row.length → AheadP (row.getD k nilP) k := fun k hk => h.ahead (getD_some hk)
def cutL (need : Nat → Bool) : List NodeP → Nat → List NodeP × List Nat → List NodeP × List Nat
  | [], _, x => x
  | n :: r, i, x => cutL need r (i + 1) (if need i = true ∨ n.kind = 1 then (x.1 ++ [movedP x.2 n], x.2 ++ [x.1.length]) else (x.1, x.2 ++ [0]))
def tidyP (l : List NodeP) (sh : List (List Int)) (out : Nat) : List NodeP × Nat :=
  ((cutL (needB (tidyL l sh ([], [])).1 ((tidyL l sh ([], [])).2.getD out 0)) (tidyL l sh ([], [])).1 0 ([], [])).1,
   (cutL (needB (tidyL l sh ([], [])).1 ((tidyL l sh ([], [])).2.getD out 0)) (tidyL l sh ([], [])).1 0 ([], [])).2.getD ((tidyL l sh ([], [])).2.getD out 0) 0)
/-- the row as far as it has come -/
structure TidyAt (l : List NodeP) (sh : List (List Int)) (sp : List Sp) (i : Nat) (row : List NodeP) (st : List Nat) : Prop where
  rest : tidyL (l.drop i) (sh.drop i) (row, st) = tidyL l sh ([], [])
  len : st.length = i
  few : row.length ≤ i
  ok : ∃ rsh rsp, RowOk row rsh rsp ∧ Std sh sp rsh rsp st
theorem tidyAt_start (l : List NodeP) (sh : List (List Int)) (sp : List Sp) : TidyAt l sh sp 0 [] [] := ⟨rfl, rfl, Nat.zero_le _, [], [], RowOk.nil, fun j hj => absurd hj (Nat.not_lt_zero _), fun j hj => absurd hj (Nat.not_lt_zero _), fun j hj => absurd hj (Nat.not_lt_zero _)⟩
theorem TidyAt.step {l : List NodeP} {sh : List (List Int)} {sp : List Sp} {i : Nat} {row : List NodeP} {st : List Nat} (hL : RowOk l sh sp) (h : TidyAt l sh sp i row st) {n : NodeP} (hn : l[i]? = some n) : TidyAt l sh sp (i + 1) (stepP (gD sh i) (row, st) n).1 (stepP (gD sh i) (row, st) n).2 := by
  obtain ⟨h1, rfl, h3, rsh, rsp, hR, hS⟩ := h
  obtain ⟨rsh', rsp', h5, h6⟩ := step_ok hL hR hS hn
  have hil := (List.getElem?_eq_some_iff.1 hn).1
  obtain ⟨s1, s2, _⟩ := step_len (gD sh st.length) (row, st) n
  simp only at s1 s2
  refine ⟨?_, s1, by omega, rsh', rsp', h5, h6⟩
  rw [← h1, List.drop_eq_getElem_cons hil, List.drop_eq_getElem_cons (l := sh) (i := st.length) (by rw [hL.lenS]; exact hil)]
  have e1 : l[st.length] = n := by rw [List.getElem?_eq_getElem hil] at hn; simpa using hn
  have e2 : sh[st.length]'(by rw [hL.lenS]; exact hil) = gD sh st.length := by unfold gD; rw [List.getD_eq_getElem?_getD, List.getElem?_eq_getElem (by rw [hL.lenS]; exact hil)]; rfl
  rw [e1, e2]
  rfl
theorem TidyAt.done {l : List NodeP} {sh : List (List Int)} {sp : List Sp} {row : List NodeP} {st : List Nat} (h : TidyAt l sh sp l.length row st) : tidyL l sh ([], []) = (row, st) := by
  rw [← h.rest, List.drop_length]; rfl
end Go.Proofs.Ytdmkdogakbipbaa

/- OA -/
namespace Go.Proofs.Ytdmkdogakbipbaa
open Go.SX Go.RowKit
structure Neat (row : List NodeP) : Prop where
  known : ∀ (k : Nat) p, row[k]? = some p → knownP row p = false
  once : ∀ (j k : Nat) p, j < k → row[j]? = some p → row[k]? = some p → p.kind = 1
theorem known_congr {row row' : List NodeP} {p : NodeP} (hA : p.kind ≠ 1 → p.kind ≠ 2 → (row.getD p.a.toNat nilP).kind = (row'.getD p.a.toNat nilP).kind) (hB : p.kind = 6 → (row.getD p.b.toNat nilP).kind = (row'.getD p.b.toNat nilP).kind) : knownP row p = knownP row' p := by
  unfold knownP constAt
  by_cases h12 : p.kind = 1 ∨ p.kind = 2
  · rw [decide_eq_true h12]; rfl
  · rw [hA (by omega) (by omega)]
    by_cases h6 : p.kind = 6
    · rw [hB h6]
    · rw [decide_eq_true (show p.kind ≠ 6 from h6), Bool.true_or, Bool.true_or]
theorem getD_app {row : List NodeP} {m : NodeP} {k : Nat} (h : k < row.length) : (row ++ [m]).getD k nilP = row.getD k nilP := by
  rw [List.getD_eq_getElem?_getD, List.getD_eq_getElem?_getD, List.getElem?_append_left h]
theorem known_app {row : List NodeP} {m p : NodeP} (h : AheadP p row.length) : knownP (row ++ [m]) p = knownP row p :=
  known_congr (fun h1 h2 => by rw [getD_app (h.a1 h1 h2)]) (fun h6 => by rw [getD_app (h.b1 h6)])
theorem AheadP.up {p : NodeP} {k m : Nat} (h : AheadP p k) (hm : k ≤ m) : AheadP p m := ⟨h.a0, fun h1 h2 => Nat.lt_of_lt_of_le (h.a1 h1 h2) hm, h.a2, h.b0, fun h6 => Nat.lt_of_lt_of_le (h.b1 h6) hm, h.b2, h.kind⟩
theorem idxP_none {n : NodeP} : ∀ {row : List NodeP} {k : Nat}, idxP n row k = none → ∀ j : Nat, row[j]? ≠ some n
  | [], _, _, j => by simp
  | x :: r, k, h, j => by
    unfold idxP at h
    split at h
    · cases h
    · rename_i hs
      cases j with
      | zero =>
        simp only [List.getElem?_cons_zero, ne_eq, Option.some.injEq]
        exact fun e => hs (sameP_iff.2 e)
      | succ j => rw [List.getElem?_cons_succ]; exact idxP_none h j
theorem neat_nil : Neat [] := ⟨fun k p h => by simp at h, fun j k p _ h => by simp at h⟩
theorem Neat.snoc {row : List NodeP} {m : NodeP} (h : Neat row) (ha : ∀ (k : Nat) p, row[k]? = some p → AheadP p k) (hm : AheadP m row.length) (hk : knownP row m = false) (hf : findP row m = none) : Neat (row ++ [m]) := by
  refine ⟨fun k p hp => ?_, fun j k p hjk hj hk2 => ?_⟩
  · rcases Nat.lt_or_ge k row.length with hlt | hge
    · rw [List.getElem?_append_left hlt] at hp
      rw [known_app ((ha k p hp).up (Nat.le_of_lt hlt))]
      exact h.known k p hp
    · rw [List.getElem?_append_right hge] at hp
      have : m = p := by
        cases hq : k - row.length with
        | zero => rw [hq] at hp; simpa using hp
        | succ q => rw [hq] at hp; simp at hp
      subst this
      rw [known_app hm]; exact hk
  · rcases Nat.lt_or_ge k row.length with hlt | hge
    · rw [List.getElem?_append_left hlt] at hk2
      rw [List.getElem?_append_left (by omega)] at hj
      exact h.once j k p hjk hj hk2
    · rw [List.getElem?_append_right hge] at hk2
      have hkq : k = row.length := by
        have := (List.getElem?_eq_some_iff.1 hk2).1
        simp at this; omega
      subst hkq
      have : m = p := by simpa using hk2
      subst this
      rw [List.getElem?_append_left hjk] at hj
      unfold findP at hf
      split at hf
      · assumption
      · exact absurd hj (idxP_none hf j)
theorem fold_known {s : List Int} {row : List NodeP} {n : NodeP} : knownP row (foldP s row n) = false := by
  unfold foldP
  by_cases h : knownP row n = true
  · rw [if_pos h]; rfl
  · rw [if_neg h]; simpa using h
theorem tidy_neat {l : List NodeP} {sh : List (List Int)} {sp : List Sp} (hL : RowOk l sh sp) : ∀ i, i ≤ l.length → ∃ row st, TidyAt l sh sp i row st ∧ Neat row
  | 0, _ => ⟨[], [], tidyAt_start l sh sp, neat_nil⟩
  | i + 1, hi => by
    obtain ⟨row, st, hT, hN⟩ := tidy_neat hL i (by omega)
    have hn : l[i]? = some l[i] := List.getElem?_eq_getElem (by omega)
    refine ⟨_, _, hT.step hL hn, ?_⟩
    obtain ⟨rsh, rsp, hR, hS⟩ := hT.ok
    have hlen := hT.len
    have hn' : l[st.length]? = some l[i] := by rw [hlen]; exact hn
    obtain ⟨hm, _⟩ := fold_in hL hR hS hn'
    rw [hlen] at hm
    unfold stepP layP
    simp only
    cases hf : findP row (foldP (gD sh i) row (movedP st l[i])) with
    | some k => exact hN
    | none =>
      have hah := aheadP_of hm.form
      rw [hR.lenS] at hah
      exact hN.snoc (fun k p hp => hR.ahead hp) hah fold_known hf
def idL (n : Nat) : List Nat := List.range n
theorem idL_getD {n k : Nat} (h : k < n) : (idL n).getD k 0 = k := by
  unfold idL
  rw [List.getD_eq_getElem?_getD, List.getElem?_range h]; rfl
theorem moved_id {p : NodeP} {n : Nat} (h : AheadP p n) : movedP (idL n) p = p := by
  have a0 := h.a0
  have b0 := h.b0
  unfold movedP
  by_cases h12 : p.kind = 1 ∨ p.kind = 2
  · rw [if_pos h12]
  · rw [if_neg h12, idL_getD (h.a1 (by omega) (by omega))]
    have ea : ((p.a.toNat : Nat) : Int) = p.a := by omega
    by_cases h6 : p.kind = 6
    · rw [if_pos h6, idL_getD (h.b1 h6), ea]
      have eb : ((p.b.toNat : Nat) : Int) = p.b := by omega
      rw [eb]
    · rw [if_neg h6, ea]
theorem idL_succ (n : Nat) : idL (n + 1) = idL n ++ [n] := by unfold idL; exact List.range_succ
theorem neat_step {row : List NodeP} {rsh : List (List Int)} {rsp : List Sp} (hR : RowOk row rsh rsp) (hN : Neat row) {i : Nat} {p : NodeP} (hp : row[i]? = some p) (s : List Int) : stepP s (row.take i, idL i) p = (row.take (i + 1), idL (i + 1)) := by
  have hah := hR.ahead hp
  have hil := (List.getElem?_eq_some_iff.1 hp).1
  have hgt : ∀ k, k < i → (row.take i).getD k nilP = row.getD k nilP := fun k hk => by
    rw [List.getD_eq_getElem?_getD, List.getD_eq_getElem?_getD, List.getElem?_take_of_lt hk]
  have hkn : knownP (row.take i) p = false := by
    rw [known_congr (row' := row) (fun h1 h2 => by rw [hgt _ (hah.a1 h1 h2)]) (fun h6 => by rw [hgt _ (hah.b1 h6)])]
    exact hN.known i p hp
  have hfold : foldP s (row.take i) (movedP (idL i) p) = p := by
    rw [moved_id hah]
    unfold foldP
    rw [if_neg (by rw [hkn]; decide)]
  have hfind : findP (row.take i) p = none := by
    cases hf : findP (row.take i) p with
    | none => rfl
    | some k =>
      obtain ⟨h1, h2⟩ := findP_some hf
      have hk := (List.getElem?_eq_some_iff.1 h2).1
      rw [List.length_take] at hk
      have hki : k < i := by omega
      rw [List.getElem?_take_of_lt hki] at h2
      exact absurd (hN.once k i p hki h2 hp) h1
  unfold stepP layP
  simp only
  rw [hfold, hfind]
  simp only
  rw [List.length_take, Nat.min_eq_left (by omega), idL_succ, List.take_add_one, hp]
  rfl
theorem neat_tidyL {row : List NodeP} {rsh : List (List Int)} {rsp : List Sp} (hR : RowOk row rsh rsp) (hN : Neat row) : ∀ i, i ≤ row.length → tidyL (row.drop (row.length - i)) (rsh.drop (row.length - i)) (row.take (row.length - i), idL (row.length - i)) = (row, idL row.length)
  | 0, _ => by
    rw [Nat.sub_zero, List.drop_length, List.take_length]; rfl
  | i + 1, hi => by
    have hlt : row.length - (i + 1) < row.length := by omega
    have hl2 : row.length - (i + 1) < rsh.length := by rw [hR.lenS]; exact hlt
    rw [List.drop_eq_getElem_cons hlt, List.drop_eq_getElem_cons hl2]
    show tidyL _ _ (stepP _ _ _) = _
    rw [neat_step hR hN (List.getElem?_eq_getElem hlt)]
    have e : row.length - (i + 1) + 1 = row.length - i := by omega
    rw [e]
    exact neat_tidyL hR hN i (by omega)
theorem neat_all {row : List NodeP} {rsh : List (List Int)} {rsp : List Sp} (hR : RowOk row rsh rsp) (hN : Neat row) : tidyL row rsh ([], []) = (row, idL row.length) := by
  have := neat_tidyL hR hN row.length (Nat.le_refl _)
  rw [Nat.sub_self] at this
  exact this
/-- all needed or inputs: nothing is cut -/
theorem cut_all {row : List NodeP} {need : Nat → Bool} (ha : ∀ (k : Nat) p, row[k]? = some p → AheadP p k) (hn : ∀ (k : Nat) p, row[k]? = some p → need k = true ∨ p.kind = 1) : ∀ i, i ≤ row.length → cutL need (row.drop (row.length - i)) (row.length - i) (row.take (row.length - i), idL (row.length - i)) = (row, idL row.length)
  | 0, _ => by
    rw [Nat.sub_zero, List.drop_length, List.take_length]; rfl
  | i + 1, hi => by
    have hlt : row.length - (i + 1) < row.length := by omega
    have hp := List.getElem?_eq_getElem hlt
    rw [List.drop_eq_getElem_cons hlt]
    unfold cutL
    rw [if_pos (hn _ _ hp)]
    simp only
    rw [moved_id (ha _ _ hp), List.length_take, Nat.min_eq_left (by omega), ← idL_succ]
    have e : row.length - (i + 1) + 1 = row.length - i := by omega
    have e2 : row.take (row.length - (i + 1)) ++ [row[row.length - (i + 1)]] = row.take (row.length - i) := by
      rw [← e, List.take_add_one, hp]; rfl
    rw [e2, e]
    exact cut_all ha hn i (by omega)
theorem cut_whole {row : List NodeP} {need : Nat → Bool} (ha : ∀ (k : Nat) p, row[k]? = some p → AheadP p k) (hn : ∀ (k : Nat) p, row[k]? = some p → need k = true ∨ p.kind = 1) : cutL need row 0 ([], []) = (row, idL row.length) := by
  have := cut_all ha hn row.length (Nat.le_refl _)
  rw [Nat.sub_self] at this
  exact this
/-- a neat row of which all is needed but inputs is its own tidied graph -/
theorem tidyP_self {row : List NodeP} {rsh : List (List Int)} {rsp : List Sp} {out : Nat} (hR : RowOk row rsh rsp) (hN : Neat row) (ho : out < row.length) (hn : ∀ (k : Nat) p, row[k]? = some p → needB row out k = true ∨ p.kind = 1) : tidyP row rsh out = (row, out) := by
  unfold tidyP
  rw [neat_all hR hN]
  simp only
  rw [idL_getD ho, cut_whole (fun k p hp => hR.ahead hp) hn]
  simp only
  rw [idL_getD ho]
end Go.Proofs.Ytdmkdogakbipbaa

/- IJ -/
namespace Go.Proofs.Ytdmkdogakbipbaa
open Go.SX Go.RowKit
theorem freeze_intsI {w0 : World} {i n : Nat} (xs : List Int) {R0 : List (List Value)} {T : TypeId} {H : Heap} {S : Asn} {nx : Nat} {K : SV → Heap → Asn → Nat → Prop} (hN : ∀ R w, S.holds R w → (baseA w0).holds R w) (he : R0 = ints xs) (hn : n = xs.length) (hf : ∀ x ∈ xs, i64 x) (hl : xs.length ≤ 1000000) (h : ∀ u : IntsV, u.xs = xs → u.sane → K (.c u.val) H (S.and ((intsA u).past w0.heap.size)) nx) : ownK (.os i n) ((i, .rows R0 1 T) :: H) S nx K := by
  subst he hn
  exact own_freeze w0.heap.size (fun R w hS b hb => (hN R w hS b hb).1) (fun l hc => h ⟨l.base, l.cap, xs⟩ rfl ⟨hf, by simpa [ints_length] using hc, hl⟩)
theorem freeze_nodesI {w0 : World} {i n : Nat} (l : List NodeV) {R0 : List (List Value)} {T : TypeId} {H : Heap} {S : Asn} {nx : Nat} {K : SV → Heap → Asn → Nat → Prop} (hN : ∀ R w, S.holds R w → (baseA w0).holds R w) (he : R0 = nodeRows l) (hn : n = l.length) (h : ∀ base cap, K (.c (.slice base l.length cap)) H (S.and ((rowsA base 9 (nodeRows l)).past w0.heap.size)) nx) : ownK (.os i n) ((i, .rows R0 9 T) :: H) S nx K := by
  subst he hn
  exact own_freeze w0.heap.size (fun R w hS b hb => (hN R w hS b hb).1) (fun lc _ => h lc.base lc.cap)
theorem few_i64 {xs : List Int} (h : (xs.all fun x => decide (-1000000 ≤ x ∧ x ≤ 1000000)) = true) : ∀ x ∈ xs, i64 x := fun x hx => by
  have := of_decide_eq_true (List.all_eq_true.1 h x hx)
  unfold i64; omega
/-- a call of Run -/
theorem call_run {cx : Cx} {f : FuncId} {args : List SV} {H : Heap} {S : Asn} {nx : Nat} {K : SV → Heap → Asn → Nat → Prop} (r : Int × List Int) (hf : ∀ ar w, (callFunc f ar).run cx.P w = .ok (.enter f ar) w)
    (hc : ∀ ρ w', Abs cx.B ρ nx H S w' → Calls cx.P f (SV.rfs ρ args).toArray w' (RunPost w' r))
    (h0 : r.1 ≠ 0 → K (.c (.tuple #[.slice none 0 0, .int .i64 r.1])) H S nx)
    (h1 : r.1 = 0 → ∀ x : IntsV, x.xs = r.2 → x.sane → K (.c (.tuple #[x.val, .int .i64 0])) H (S.and ((intsA x).past cx.B.w0.heap.size)) nx) : callK cx f args H S nx K := by
  rw [callK_def]
  refine ⟨hf, fun ρ w hw => (hc ρ w hw).mono ?_⟩
  rintro e w' (⟨hr, rfl, he⟩ | ⟨hr, x, ⟨hx1, hx2⟩, rfl, he, hD⟩)
  · exact ⟨.c (.tuple #[.slice none 0 0, .int .i64 r.1]), ρ, H, S, nx, rfl, fun _ _ => rfl, Nat.le_refl _, SV.lt_c _, hw.ext he, h0 hr⟩
  · exact ⟨.c (.tuple #[x.val, .int .i64 0]), ρ, H, _, nx, rfl, fun _ _ => rfl, Nat.le_refl _, SV.lt_c _, hw.grow he hD, h1 hr x hx1 hx2⟩
end Go.Proofs.Ytdmkdogakbipbaa

/- NG -/
namespace Go.Proofs.Ytdmkdogakbipbaa
abbrev dtNG0 : Go.SX.DT := (.take 0 (.take 1 (.take 2 (.take 3 (.take 4 (.take 5 (.take 6 (.take 7 (.take 8 (.alt 9 (.take 10 (.one 11 (.one 12 (.done)))) (.one 11 (.one 9 (.take 10 (.one 12 (.done)))))))))))))))
abbrev dtNG1 : Go.SX.DT := (.take 0 (.take 1 (.take 2 (.take 3 (.take 4 (.take 5 (.take 6 (.take 7 (.take 8 (.take 9 (.take 10 (.one 11 (.one 12 (.take 13 (.one 14 (.one 15 (.one 16 (.done))))))))))))))))))
open Go.SX Go.RowKit
section
variable {w : World} {b : Nat} {nb sb : Option Addr} {nc sc : Nat} {kept : List NodeV} {st : List Int}
set_option maxRecDepth 20000 in
theorem deskFixed_any (hd : DeskAt w b nb nc kept sb sc st) (k : Nat) (hk : k < kept.length) (bv : Bool) (hv : decide (kept[k].kind = 2) = bv) : Calls Try.prog 80 #[.pointer (some ⟨b, 0, none⟩), .int .i64 k] w fun e w' => e = .returned (.bool bv) ∧ Ext w w' := by
  obtain ⟨na, hna⟩ : ∃ a, nb = some a := base_some (j := k) hd.nodes (by rw [nodeRows_length]; omega)
  have hrow := nodeRows_get hk
  generalize kept[k] = n at *
  subst hv
  refine calls_of tab tabOk Try.func80 rfl rfl rfl [] (fun _ => ⟨none, 0⟩) [.c (.pointer (some ⟨b, 0, none⟩)), .c (.int .i64 k)] [] (baseA w) 0 rfl rfl (by show 2 ≤ _; decide) (abs_base w) ?_
  by_cases h2 : n.kind = 2
  · rw [decide_eq_true h2]
    (repeat' ((conv => whnf) <;> first | (show roK _ _ _; (first | refine ro_cell (fun R w' h => by simp only [add_none]; exact (hd.later h).c0) ?_ | refine ro_cell (fun R w' h => by simp only [add_none]; exact (hd.later h).c2) ?_)) | (show idxK _ _ _ _ _; refine idx_of na k hna rfl hk ?_) | (show roK _ _ _; (refine ro_row (fun R w' h => by rw [← hna]; exact rows_base h hd.nodes) _ _ hrow rfl ?_)) | (show @cmpK _ _ _; refine cmp_yes h2 ?_) | (show Wp _ _ _ _ _ _ _; refine Wp.go tabOk rfl ?_) | (show @cmpK _ _ _; (first | refine cmpY ?_ | refine cmpN ?_ | (refine cmp_both ?_ ?_ <;> intro _))) | (show wrapK _ _ _; refine wrapA ?_) | (show leK _ _ _; refine leA ?_) | (show roomK _ _ _; refine roomA ?_) | (show ltK _ _ _; refine ltA ?_) | (show _ ∧ _; refine ⟨?_, ?_⟩) | (show keepK _ _ _ _ _; refine keepA ?_) | refine own_keep ?_ | refine ap_old ?_))
    all_goals (conv => whnf)
    all_goals exact ends_bool (fun _ _ h => h) rfl rfl
  · rw [decide_eq_false h2]
    (repeat' ((conv => whnf) <;> first | (show roK _ _ _; (first | refine ro_cell (fun R w' h => by simp only [add_none]; exact (hd.later h).c0) ?_ | refine ro_cell (fun R w' h => by simp only [add_none]; exact (hd.later h).c2) ?_)) | (show idxK _ _ _ _ _; refine idx_of na k hna rfl hk ?_) | (show roK _ _ _; (refine ro_row (fun R w' h => by rw [← hna]; exact rows_base h hd.nodes) _ _ hrow rfl ?_)) | (show @cmpK _ _ _; refine cmp_no h2 ?_) | (show Wp _ _ _ _ _ _ _; refine Wp.go tabOk rfl ?_) | (show @cmpK _ _ _; (first | refine cmpY ?_ | refine cmpN ?_ | (refine cmp_both ?_ ?_ <;> intro _))) | (show wrapK _ _ _; refine wrapA ?_) | (show leK _ _ _; refine leA ?_) | (show roomK _ _ _; refine roomA ?_) | (show ltK _ _ _; refine ltA ?_) | (show _ ∧ _; refine ⟨?_, ?_⟩) | (show keepK _ _ _ _ _; refine keepA ?_) | refine own_keep ?_ | refine ap_old ?_))
    all_goals (conv => whnf)
    all_goals exact ends_bool (fun _ _ h => h) rfl rfl
def constV (kept : List NodeV) (k : Int) : Bool := decide ((kept.getD k.toNat (NodeP.toV nilP)).kind = 2)
theorem constV_at {kept : List NodeV} {k : Int} (h : k.toNat < kept.length) : decide (kept[k.toNat].kind = 2) = constV kept k := by
  unfold constV; rw [List.getD_eq_getElem?_getD, List.getElem?_eq_getElem h]; rfl
theorem constV_pl (kept : List NodeV) (k : Int) : constAt (kept.map NodeV.pl) k = constV kept k := by
  unfold constV constAt
  congr 1
  rw [List.getD_eq_getElem?_getD, List.getD_eq_getElem?_getD, List.getElem?_map]
  cases kept[k.toNat]? <;> rfl
theorem deskFixed_at (hd : DeskAt w b nb nc kept sb sc st) {k : Int} (h0 : 0 ≤ k) (hk : k.toNat < kept.length) {bv : Bool} (hv : constV kept k = bv) : Calls Try.prog 80 #[.pointer (some ⟨b, 0, none⟩), .int .i64 k] w fun e w' => e = .returned (.bool bv) ∧ Ext w w' := by
  have := deskFixed_any hd k.toNat hk bv ((constV_at hk).trans hv)
  rwa [Int.toNat_of_nonneg h0] at this
set_option maxRecDepth 20000 in
/-- a node that stays as it is -/
theorem folded_no (hd : DeskAt w b nb nc kept sb sc st) (n : NodeV) (hn : AheadP n.pl kept.length) (hk : knownP (kept.map NodeV.pl) n.pl = false) : Calls Try.prog 50 #[.pointer (some ⟨b, 0, none⟩), n.valA] w fun e w' => e = .returned n.valA ∧ Ext w w' := by
  have hkk := hn.kind
  have kk : n.pl.kind = n.kind := rfl
  have ka : n.pl.a = n.a := rfl
  have kb : n.pl.b = n.b := rfl
  have ha0 := hn.a0
  have hb0 := hn.b0
  have ha1 := hn.a1
  have hb1 := hn.b1
  rw [kk] at hkk ha1 hb1
  rw [ka] at ha0 ha1
  rw [kb] at hb0 hb1
  unfold knownP at hk
  rw [constV_pl, constV_pl, kk, ka, kb] at hk
  by_cases h12 : n.kind = 1 ∨ n.kind = 2
  · refine calls_of tab tabOk Try.func50 rfl rfl rfl [] (fun _ => ⟨none, 0⟩) [.c (.pointer (some ⟨b, 0, none⟩)), .agg [.c (.int .i64 n.kind), .c (.int .i64 n.a), .c (.int .i64 n.b), .c n.shape.val, .c (.int .i64 n.lo), .c (.int .i64 n.hi), .c (.int .i64 n.size), .c n.data.val, .c n.bias.val]] [] (baseA w) 0 rfl rfl (by show 2 ≤ _; decide) (abs_base w) ?_
    (repeat' ((conv => whnf) <;> first | (show drawK _ 3 _ _ _ _ _ _; refine draw_tree tabOk mixed [12] _ dtNG0 (by kernel_rfl) (by kernel_rfl) (by kernel_rfl) (List.Sublist.refl _) ?_) | (show drawK _ 6 _ _ _ _ _ _; refine draw_tree tabOk mixed [14, 16] _ dtNG1 (by kernel_rfl) (by kernel_rfl) (by kernel_rfl) (List.Sublist.refl _) ?_) | (show Wp _ _ _ _ _ _ _; refine Wp.go tabOk rfl ?_) | (show @cmpK _ _ _; (first | refine cmpY ?_ | refine cmpN ?_ | (refine cmp_both ?_ ?_ <;> intro _))) | (show wrapK _ _ _; refine wrapA ?_) | (show leK _ _ _; refine leA ?_) | (show roomK _ _ _; refine roomA ?_) | (show ltK _ _ _; refine ltA ?_) | (show _ ∧ _; refine ⟨?_, ?_⟩) | (show keepK _ _ _ _ _; refine keepA ?_) | refine own_keep ?_ | refine ap_old ?_))
    all_goals (conv => whnf)
    all_goals first | (exfalso; omega) | exact ends_of (fun _ _ h => h) (fun _ => rfl) rfl
  · have a1 := ha1 (by omega) (by omega)
    have hk' : (constV kept n.a && (decide (n.kind ≠ 6) || constV kept n.b)) = false := by
      rw [decide_eq_false h12] at hk; simpa using hk
    cases hA : constV kept n.a with
    | false =>
      refine calls_of tab tabOk Try.func50 rfl rfl rfl [] (fun _ => ⟨none, 0⟩) [.c (.pointer (some ⟨b, 0, none⟩)), .agg [.c (.int .i64 n.kind), .c (.int .i64 n.a), .c (.int .i64 n.b), .c n.shape.val, .c (.int .i64 n.lo), .c (.int .i64 n.hi), .c (.int .i64 n.size), .c n.data.val, .c n.bias.val]] [] (baseA w) 0 rfl rfl (by show 2 ≤ _; decide) (abs_base w) ?_
      (repeat' ((conv => whnf) <;> first | (show callK _ 80 _ _ _ _ _; refine call_pure (f := 80) Try.call80 (.bool false) (fun ρ w' hw => deskFixed_at (holds_of_abs hw fun R h => hd.later h) ha0 a1 hA) ?_) | (show drawK _ 3 _ _ _ _ _ _; refine draw_tree tabOk mixed [12] _ dtNG0 (by kernel_rfl) (by kernel_rfl) (by kernel_rfl) (List.Sublist.refl _) ?_) | (show drawK _ 6 _ _ _ _ _ _; refine draw_tree tabOk mixed [14, 16] _ dtNG1 (by kernel_rfl) (by kernel_rfl) (by kernel_rfl) (List.Sublist.refl _) ?_) | (show Wp _ _ _ _ _ _ _; refine Wp.go tabOk rfl ?_) | (show @cmpK _ _ _; (first | refine cmpY ?_ | refine cmpN ?_ | (refine cmp_both ?_ ?_ <;> intro _))) | (show wrapK _ _ _; refine wrapA ?_) | (show leK _ _ _; refine leA ?_) | (show roomK _ _ _; refine roomA ?_) | (show ltK _ _ _; refine ltA ?_) | (show _ ∧ _; refine ⟨?_, ?_⟩) | (show keepK _ _ _ _ _; refine keepA ?_) | refine own_keep ?_ | refine ap_old ?_))
      all_goals (conv => whnf)
      all_goals first | (exfalso; omega) | exact ends_of (fun _ _ h => h) (fun _ => rfl) rfl
    | true =>
      rw [hA, Bool.true_and] at hk'
      simp only [Bool.or_eq_false_iff, decide_eq_false_iff_not, Decidable.not_not] at hk'
      obtain ⟨h6, hB⟩ := hk'
      have b1 := hb1 h6
      by_cases hab : n.a = n.b
      · rw [hab, hB] at hA; cases hA
      refine calls_of tab tabOk Try.func50 rfl rfl rfl [] (fun _ => ⟨none, 0⟩) [.c (.pointer (some ⟨b, 0, none⟩)), .agg [.c (.int .i64 n.kind), .c (.int .i64 n.a), .c (.int .i64 n.b), .c n.shape.val, .c (.int .i64 n.lo), .c (.int .i64 n.hi), .c (.int .i64 n.size), .c n.data.val, .c n.bias.val]] [] (baseA w) 0 rfl rfl (by show 2 ≤ _; decide) (abs_base w) ?_
      (repeat' ((conv => whnf) <;> first | (show callK _ 80 [_, .c (.int .i64 n.a)] _ _ _ _; refine call_pure (f := 80) Try.call80 (.bool true) (fun ρ w' hw => deskFixed_at (holds_of_abs hw fun R h => hd.later h) ha0 a1 hA) ?_) | (show callK _ 80 [_, .c (.int .i64 n.b)] _ _ _ _; refine call_pure (f := 80) Try.call80 (.bool false) (fun ρ w' hw => deskFixed_at (holds_of_abs hw fun R h => hd.later h) hb0 b1 hB) ?_) | (show drawK _ 3 _ _ _ _ _ _; refine draw_tree tabOk mixed [12] _ dtNG0 (by kernel_rfl) (by kernel_rfl) (by kernel_rfl) (List.Sublist.refl _) ?_) | (show drawK _ 6 _ _ _ _ _ _; refine draw_tree tabOk mixed [14, 16] _ dtNG1 (by kernel_rfl) (by kernel_rfl) (by kernel_rfl) (List.Sublist.refl _) ?_) | (show Wp _ _ _ _ _ _ _; refine Wp.go tabOk rfl ?_) | (show @cmpK _ _ _; (first | refine cmpY ?_ | refine cmpN ?_ | (refine cmp_both ?_ ?_ <;> intro _))) | (show wrapK _ _ _; refine wrapA ?_) | (show leK _ _ _; refine leA ?_) | (show roomK _ _ _; refine roomA ?_) | (show ltK _ _ _; refine ltA ?_) | (show _ ∧ _; refine ⟨?_, ?_⟩) | (show keepK _ _ _ _ _; refine keepA ?_) | refine own_keep ?_ | refine ap_old ?_))
      all_goals (conv => whnf)
      all_goals first | (exfalso; omega) | exact ends_of (fun _ _ h => h) (fun _ => rfl) rfl
end
end Go.Proofs.Ytdmkdogakbipbaa

