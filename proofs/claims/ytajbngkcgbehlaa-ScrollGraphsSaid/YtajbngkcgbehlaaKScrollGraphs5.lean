import Derived.Test.YtajbngkcgbehlaaKScrollGraphs4
/- GF -/
namespace Go.Proofs.Ytajbngkcgbehlaa
open Go.SX Go.RowKit
/-! Plain: shapes -/
theorem entLoop_bd : ∀ (xs : List Int) (n : Int), 1 ≤ n → n ≤ 64 → 0 ≤ entLoop n xs ∧ entLoop n xs ≤ 64
  | [], n, h1, h2 => ⟨by simp only [entLoop]; omega, by simpa only [entLoop] using h2⟩
  | d :: r, n, h1, h2 => by
    simp only [entLoop]
    by_cases h : d < 1 ∨ d > 64 / n
    · rw [if_pos h]; omega
    · rw [if_neg h]
      have h3 : ¬ n * d > 64 := fun g => h (.inr ((entRef h1 (by omega)).2 g))
      have h4 : n * 1 ≤ n * d := Int.mul_le_mul_of_nonneg_left (by omega) (by omega)
      exact entLoop_bd r (n * d) (by omega) (by omega)
theorem entries_bd (xs : List Int) : 0 ≤ entries xs ∧ entries xs ≤ 64 := by
  unfold entries
  split
  · omega
  · exact entLoop_bd xs 1 (by omega) (by omega)
theorem entLoop_dims : ∀ (xs : List Int) (n : Int), 1 ≤ n → n ≤ 64 → 0 < entLoop n xs → ∀ x ∈ xs, 1 ≤ x ∧ x ≤ 64
  | [], n, _, _, _, x, hx => by simp at hx
  | d :: r, n, h1, h2, h, x, hx => by
    simp only [entLoop] at h
    by_cases hc : d < 1 ∨ d > 64 / n
    · rw [if_pos hc] at h; omega
    · rw [if_neg hc] at h
      have h3 : ¬ n * d > 64 := fun g => hc (.inr ((entRef h1 (by omega)).2 g))
      have h4 : n * 1 ≤ n * d := Int.mul_le_mul_of_nonneg_left (by omega) (by omega)
      have h5 : 1 * d ≤ n * d := Int.mul_le_mul_of_nonneg_right h1 (by omega)
      rcases List.mem_cons.1 hx with rfl | hx
      · omega
      · exact entLoop_dims r (n * d) (by omega) (by omega) h x hx
theorem entries_dims {xs : List Int} (h : 0 < entries xs) : 1 ≤ xs.length ∧ xs.length ≤ 3 ∧ ∀ x ∈ xs, 1 ≤ x ∧ x ≤ 64 := by
  unfold entries at h
  by_cases hl : xs.length < 1 ∨ 3 < xs.length
  · rw [if_pos hl] at h; omega
  · rw [if_neg hl] at h
    exact ⟨by omega, by omega, entLoop_dims xs 1 (by omega) (by omega) h⟩
theorem kerLoop_dims : ∀ (xs : List Int) (n : Int), 0 < kerLoop n xs → ∀ x ∈ xs, 1 ≤ x ∧ x ≤ 64
  | [], _, _, x, hx => by simp at hx
  | d :: r, n, h, x, hx => by
    simp only [kerLoop] at h
    by_cases hc : d < 1 ∨ d > 64
    · rw [if_pos hc] at h; omega
    · rw [if_neg hc] at h
      rcases List.mem_cons.1 hx with rfl | hx
      · omega
      · exact kerLoop_dims r (n * d) h x hx
theorem kernel_dims {xs : List Int} (h : 0 < kernelI xs) : xs.length = 4 ∧ ∀ x ∈ xs, 1 ≤ x ∧ x ≤ 64 := by
  have h4 := kernel_len h
  unfold kernelI at h
  rw [if_pos h4] at h
  exact ⟨h4, kerLoop_dims xs 1 h⟩
theorem getD_mem {xs : List Int} {k : Nat} (h : k < xs.length) : xs.getD k 0 ∈ xs := by
  simp [List.getD, h]
theorem entries3 {a b c : Int} (ha : 1 ≤ a) (hb : 1 ≤ b) (hc : 1 ≤ c) (h : a * b * c ≤ 64) : 0 < entries [a, b, c] := by
  have e : entries [a, b, c] = entLoop 1 [a, b, c] := by unfold entries; rw [if_neg (by simp)]
  have h1 : 1 ≤ a * b := by have := Int.mul_le_mul ha hb (by omega) (by omega); omega
  have h2 : a * b * 1 ≤ a * b * c := Int.mul_le_mul_of_nonneg_left hc (by omega)
  have h3 : a * 1 ≤ a * b := Int.mul_le_mul_of_nonneg_left hb (by omega)
  have t1 : ¬ (a < 1 ∨ a > 64 / 1) := by
    rintro (g | g)
    · omega
    · have := (entRef (n := 1) (by omega) ha).1 g; omega
  have t2 : ¬ (b < 1 ∨ b > 64 / (1 * a)) := by
    rintro (g | g)
    · omega
    · have := (entRef (n := 1 * a) (by omega) hb).1 g; rw [Int.one_mul] at this; omega
  have t3 : ¬ (c < 1 ∨ c > 64 / (1 * a * b)) := by
    rintro (g | g)
    · omega
    · have := (entRef (n := 1 * a * b) (by rw [Int.one_mul]; omega) hc).1 g; rw [Int.one_mul] at this; omega
  rw [e]
  simp only [entLoop]
  rw [if_neg t1, if_neg t2, if_neg t3, Int.one_mul]
  omega
theorem entries3_prod {a b c : Int} (h : 0 < entries [a, b, c]) : 1 ≤ a ∧ 1 ≤ b ∧ 1 ≤ c ∧ a * b * c ≤ 64 := by
  have hd := (entries_dims h).2.2
  have ha := hd a (by simp)
  have hb := hd b (by simp)
  have hc := hd c (by simp)
  have e : entries [a, b, c] = entLoop 1 [a, b, c] := by unfold entries; rw [if_neg (by simp)]
  rw [e] at h
  simp only [entLoop] at h
  by_cases t1 : a < 1 ∨ a > 64 / 1
  · rw [if_pos t1] at h; omega
  rw [if_neg t1] at h
  by_cases t2 : b < 1 ∨ b > 64 / (1 * a)
  · rw [if_pos t2] at h; omega
  rw [if_neg t2] at h
  by_cases t3 : c < 1 ∨ c > 64 / (1 * a * b)
  · rw [if_pos t3] at h; omega
  have hab : 1 ≤ a * b := by have := Int.mul_le_mul ha.1 hb.1 (by omega) (by omega); omega
  have : ¬ (1 * a * b * c > 64) := fun g => t3 (.inr ((entRef (by rw [Int.one_mul]; exact hab) hc.1).2 g))
  rw [Int.one_mul] at this
  exact ⟨ha.1, hb.1, hc.1, by omega⟩
theorem entries1 {a : Int} (h1 : 1 ≤ a) (h2 : a ≤ 64) : 0 < entries [a] := by
  have e : entries [a] = entLoop 1 [a] := by unfold entries; rw [if_neg (by simp)]
  rw [e]
  simp only [entLoop]
  have t1 : ¬ (a < 1 ∨ a > 64 / 1) := by
    rintro (g | g)
    · omega
    · have := (entRef (n := 1) (by omega) h1).1 g; omega
  rw [if_neg t1]; omega

/-- the shape of a node of right form, with the shapes of those ahead; none: it does not go together with them -/
def shapeO (n : NodeV) (sh : List (List Int)) : Option (List Int) :=
  if n.kind = 1 ∨ n.kind = 2 then some n.shape.xs
  else if n.kind = 3 then (if (n.data.xs.length : Int) = n.bias.xs.length * entries (sh.getD n.a.toNat []) then some [(n.bias.xs.length : Int)] else none)
  else if n.kind = 4 then
    (if (sh.getD n.a.toNat []).length ≠ 3 ∨ (sh.getD n.a.toNat []).getD 0 0 ≠ n.shape.xs.getD 1 0 ∨ (sh.getD n.a.toNat []).getD 1 0 < n.shape.xs.getD 2 0 ∨ (sh.getD n.a.toNat []).getD 2 0 < n.shape.xs.getD 3 0 then none
     else if 0 < entries [n.shape.xs.getD 0 0, (sh.getD n.a.toNat []).getD 1 0 - n.shape.xs.getD 2 0 + 1, (sh.getD n.a.toNat []).getD 2 0 - n.shape.xs.getD 3 0 + 1] then some [n.shape.xs.getD 0 0, (sh.getD n.a.toNat []).getD 1 0 - n.shape.xs.getD 2 0 + 1, (sh.getD n.a.toNat []).getD 2 0 - n.shape.xs.getD 3 0 + 1] else none)
  else if n.kind = 5 then
    (if (sh.getD n.a.toNat []).length ≠ 3 ∨ (sh.getD n.a.toNat []).getD 1 0 % n.size ≠ 0 ∨ (sh.getD n.a.toNat []).getD 2 0 % n.size ≠ 0 then none
     else some [(sh.getD n.a.toNat []).getD 0 0, (sh.getD n.a.toNat []).getD 1 0 / n.size, (sh.getD n.a.toNat []).getD 2 0 / n.size])
  else if n.kind = 6 then (if sh.getD n.a.toNat [] = sh.getD n.b.toNat [] then some (sh.getD n.a.toNat []) else none)
  else if n.kind = 9 then (if entries n.shape.xs = entries (sh.getD n.a.toNat []) then some n.shape.xs else none)
  else some (sh.getD n.a.toNat [])

/-- what a node of right form has -/
structure Formed (n : NodeV) (at_ : Nat) : Prop where
  a : n.kind ≠ 1 → n.kind ≠ 2 → 0 ≤ n.a ∧ n.a < at_
  b : n.kind = 6 → 0 ≤ n.b ∧ n.b < at_
  own : n.kind = 1 ∨ n.kind = 2 ∨ n.kind = 9 → 0 < entries n.shape.xs
  bias : n.kind = 3 → 1 ≤ n.bias.xs.length ∧ n.bias.xs.length ≤ 64
  kern : n.kind = 4 → 0 < kernelI n.shape.xs
  pool : n.kind = 5 → 0 < n.size
  kind : 1 ≤ n.kind ∧ n.kind ≤ 9
theorem formed_of {n : NodeV} {at_ : Nat} (h : formB n at_ = true) : Formed n at_ := by
  unfold formB at h
  have hk : n.kind = 1 ∨ n.kind = 2 ∨ n.kind = 3 ∨ n.kind = 4 ∨ n.kind = 5 ∨ n.kind = 6 ∨ n.kind = 7 ∨ n.kind = 8 ∨ n.kind = 9 ∨ ¬ (n.kind = 1 ∨ n.kind = 2 ∨ n.kind = 3 ∨ n.kind = 4 ∨ n.kind = 5 ∨ n.kind = 6 ∨ n.kind = 7 ∨ n.kind = 8 ∨ n.kind = 9) := by omega
  rcases hk with hk | hk | hk | hk | hk | hk | hk | hk | hk | hk
  all_goals repeat (first | rw [if_pos (by omega)] at h | rw [if_neg (by omega)] at h)
  all_goals try simp only [Bool.and_eq_true, decide_eq_true_eq, aheadB] at h
  · exact ⟨by omega, by omega, by omega, by omega, by omega, by omega, by omega⟩
  · exact ⟨by omega, by omega, by omega, by omega, by omega, by omega, by omega⟩
  · exact ⟨by omega, by omega, by omega, by omega, by omega, by omega, by omega⟩
  · exact ⟨by omega, by omega, by omega, by omega, by omega, by omega, by omega⟩
  · exact ⟨by omega, by omega, by omega, by omega, by omega, by omega, by omega⟩
  · exact ⟨by omega, by omega, by omega, by omega, by omega, by omega, by omega⟩
  · exact ⟨by omega, by omega, by omega, by omega, by omega, by omega, by omega⟩
  · exact ⟨by omega, by omega, by omega, by omega, by omega, by omega, by omega⟩
  · exact ⟨by omega, by omega, by omega, by omega, by omega, by omega, by omega⟩
  · cases h

theorem getD_good {sh : List (List Int)} (hg : ∀ s ∈ sh, 0 < entries s) {i : Int} (h0 : 0 ≤ i) (h1 : i < sh.length) : 0 < entries (sh.getD i.toNat []) := by
  have hi : i.toNat < sh.length := by omega
  have : sh.getD i.toNat [] = sh[i.toNat] := by simp [List.getD, hi]
  rw [this]
  exact hg _ (List.getElem_mem hi)
theorem len3 {xs : List Int} (h : xs.length = 3) : xs = [xs.getD 0 0, xs.getD 1 0, xs.getD 2 0] := by
  match xs, h with
  | [a, b, c], _ => rfl
theorem shape_good {n : NodeV} {sh r : List (List Int)} {s : List Int} (hf : Formed n sh.length) (hg : ∀ s ∈ sh, 0 < entries s) (h : shapeO n sh = some s) (_hr : r = sh) : 0 < entries s := by
  unfold shapeO at h
  by_cases h12 : n.kind = 1 ∨ n.kind = 2
  · rw [if_pos h12] at h; cases h; exact hf.own (by omega)
  rw [if_neg h12] at h
  have ha := hf.a (by omega) (by omega)
  have hga := getD_good hg ha.1 ha.2
  by_cases h3 : n.kind = 3
  · rw [if_pos h3] at h
    split at h
    · cases h; have := hf.bias h3; exact entries1 (by omega) (by omega)
    · cases h
  rw [if_neg h3] at h
  by_cases h4 : n.kind = 4
  · rw [if_pos h4] at h
    split at h
    · cases h
    · split at h
      · cases h; assumption
      · cases h
  rw [if_neg h4] at h
  by_cases h5 : n.kind = 5
  · rw [if_pos h5] at h
    split at h
    · cases h
    · rename_i hn
      cases h
      have hs := hf.pool h5
      generalize sh.getD n.a.toNat [] = a at *
      have hl : a.length = 3 := by omega
      rw [len3 hl] at hga
      obtain ⟨p0, p1, p2, p3⟩ := entries3_prod hga
      have d1 : n.size ∣ a.getD 1 0 := Int.dvd_of_emod_eq_zero (by omega)
      have d2 : n.size ∣ a.getD 2 0 := Int.dvd_of_emod_eq_zero (by omega)
      have q1 : 1 ≤ a.getD 1 0 / n.size := by
        have := Int.ediv_mul_cancel d1
        have h0 : 0 ≤ a.getD 1 0 / n.size := Int.ediv_nonneg (by omega) (by omega)
        by_cases g : 0 < a.getD 1 0 / n.size
        · omega
        · have e : a.getD 1 0 / n.size = 0 := by omega
          rw [e] at this; omega
      have q2 : 1 ≤ a.getD 2 0 / n.size := by
        have := Int.ediv_mul_cancel d2
        have h0 : 0 ≤ a.getD 2 0 / n.size := Int.ediv_nonneg (by omega) (by omega)
        by_cases g : 0 < a.getD 2 0 / n.size
        · omega
        · have e : a.getD 2 0 / n.size = 0 := by omega
          rw [e] at this; omega
      have l1 : a.getD 1 0 / n.size ≤ a.getD 1 0 := Int.ediv_le_self _ (by omega)
      have l2 : a.getD 2 0 / n.size ≤ a.getD 2 0 := Int.ediv_le_self _ (by omega)
      have m1 : a.getD 0 0 * (a.getD 1 0 / n.size) ≤ a.getD 0 0 * a.getD 1 0 := Int.mul_le_mul_of_nonneg_left l1 (by omega)
      have m0 : 0 ≤ a.getD 0 0 * a.getD 1 0 := Int.mul_nonneg (by omega) (by omega)
      have m2 : a.getD 0 0 * (a.getD 1 0 / n.size) * (a.getD 2 0 / n.size) ≤ a.getD 0 0 * a.getD 1 0 * a.getD 2 0 := Int.mul_le_mul m1 l2 (by omega) m0
      exact entries3 p0 q1 q2 (by omega)
  rw [if_neg h5] at h
  by_cases h6 : n.kind = 6
  · rw [if_pos h6] at h
    split at h
    · cases h; exact hga
    · cases h
  rw [if_neg h6] at h
  by_cases h9 : n.kind = 9
  · rw [if_pos h9] at h
    split at h
    · cases h; exact hf.own (by omega)
    · cases h
  rw [if_neg h9] at h
  cases h; exact hga
end Go.Proofs.Ytajbngkcgbehlaa
/- GG -/
namespace Go.Proofs.Ytajbngkcgbehlaa
open Go.SX Go.RowKit
structure IntsV.sane (v : IntsV) : Prop where
  fits : ∀ x ∈ v.xs, -9223372036854775808 ≤ x ∧ x ≤ 9223372036854775807
  room : v.xs.length ≤ v.cap
  few : v.xs.length ≤ 1000000
theorem IntsV.ok.sane {w : World} {v : IntsV} (h : v.ok w) : v.sane := ⟨h.fits, h.room, h.few⟩
def intsA (v : IntsV) : Asn := rowsA v.base 1 (ints v.xs)
theorem intsA_ok {v : IntsV} {R : Nat → Prop} {w : World} (hs : v.sane) (h : (intsA v).holds R w) : v.ok w := ⟨rowsA_in h, hs.fits, hs.room, hs.few⟩
/-- numbers in blocks from N on -/
abbrev newA (N : Nat) (v : IntsV) : Asn := (intsA v).past N

theorem newInts {w w' : World} {v : Value} {xs : List Int} (h : NewRows w w' v 1 3 (ints xs)) (hf : ∀ x ∈ xs, -9223372036854775808 ≤ x ∧ x ≤ 9223372036854775807) (hl : xs.length ≤ 1000000) :
    ∃ u : IntsV, v = u.val ∧ u.xs = xs ∧ u.sane ∧ (intsA u).holds (fun b => w.heap.size ≤ b ∧ b < w'.heap.size) w' := by
  obtain ⟨base, cap, e, h1⟩ := newRows_data h
  obtain ⟨l, e2, F, hF, hr, hcap, _⟩ := h
  rw [e2] at e
  simp only [Value.slice.injEq] at e
  obtain ⟨e3, _, e4⟩ := e
  refine ⟨⟨base, cap, xs⟩, ?_, rfl, ⟨hf, ?_, hl⟩, h1⟩
  · rw [e2, e3, e4]; simp [IntsV.val, ints_length]
  · rw [← e4]; simpa [ints_length] using hcap

def ShapePost (w : World) (n : NodeV) (l : List IntsV) (r : Option (List Int)) (e : Ending) (w' : World) : Prop :=
  ∃ (v : Value) (ok : Bool), e = .returned (.tuple #[v, .bool ok]) ∧ Ext w w' ∧ ok = r.isSome ∧
    ∀ xs, r = some xs → ∃ u : IntsV, v = u.val ∧ u.xs = xs ∧ (u = n.shape ∨ u ∈ l ∨ (u.sane ∧ (intsA u).holds (fun b => w.heap.size ≤ b ∧ b < w'.heap.size) w'))

section
variable {B : Base} {H : Heap} {S : Asn} {nx : Nat} {w : World} {n : NodeV} {l : List IntsV} {r : Option (List Int)}
theorem ends_old (u : IntsV) (hb : ∀ R w', S.holds R w' → (baseA B.w0).holds R w') (hw0 : B.w0 = w) (hu : u = n.shape ∨ u ∈ l) (hr : r = some u.xs) : finK B (.tup [.c u.val, .c (.bool true)]) H S nx (ShapePost w n l r) := by
  subst hw0 hr
  exact fin_of fun ρ w' hw => ⟨_, true, rfl, ext_of_abs hw hb, rfl, fun xs h => ⟨u, rfl, by simpa using h, hu.elim .inl fun h => .inr (.inl h)⟩⟩
theorem ends_no {v : SV} (hb : ∀ R w', S.holds R w' → (baseA B.w0).holds R w') (hw0 : B.w0 = w) (hr : r = none) : finK B (.tup [v, .c (.bool false)]) H S nx (ShapePost w n l r) := by
  subst hw0 hr
  exact fin_of fun ρ w' hw => ⟨_, false, rfl, ext_of_abs hw hb, rfl, fun xs h => by cases h⟩
theorem ends_new {i m : Nat} {xs : List Int} (hb : ∀ R w', S.holds R w' → (baseA B.w0).holds R w') (hw0 : B.w0 = w) (he : (i, Ent.rows (ints xs) 1 3) ∈ H) (hm : m = xs.length) (hf : ∀ x ∈ xs, -9223372036854775808 ≤ x ∧ x ≤ 9223372036854775807) (hl : xs.length ≤ 1000000) (hr : r = some xs) :
    finK B (.tup [.os i m, .c (.bool true)]) H S nx (ShapePost w n l r) := by
  subst hw0 hr hm
  refine fin_of fun ρ w' hw => ?_
  have hn := new_of_abs hw hb he
  rw [ints_length] at hn
  obtain ⟨u, h1, h2, h3, h4⟩ := newInts hn hf hl
  exact ⟨_, true, rfl, ext_of_abs hw hb, rfl, fun ys h => ⟨u, h1, by rw [h2]; simpa using h, .inr (.inr ⟨h3, h4⟩)⟩⟩
end

theorem entries_ints (w : World) (s : IntsV) (h : s.ok w) : Calls Try.prog 20 #[s.val] w fun e w' => e = .returned (.int .i64 (entries s.xs)) ∧ Ext w w' := entries_any w s.base s.cap s.xs h.rows
theorem same_m (w : World) (n : NodeV) (at_ : Int) (sv : ShapesV) (hs : sv.ok w) (i : Nat) (s : IntsV) (hi : sv.l[i]? = some s) (ha : n.a = i) :
    Calls Try.prog 85 #[nodeVal n at_ sv.val] w (ShapePost w n sv.l (some s.xs)) := by
  refine calls_of tab tabOk Try.func85 rfl rfl rfl [] (fun _ => ⟨none, 0⟩) [.agg [.c (.int .i64 n.kind), .c (.int .i64 n.a), .c (.int .i64 n.b), .c n.shape.val, .c (.int .i64 n.lo), .c (.int .i64 n.hi), .c (.int .i64 n.size), .c n.data.val, .c n.bias.val, .c (.int .i64 at_), .c sv.val]] [] (baseA w) 0 rfl rfl (by show 1 ≤ _; decide) (abs_base w) ?_
  (repeat' ((conv => whnf) <;> first | (show callK _ 115 _ _ _ _ _; (refine call_pure (f := 115) Try.call115 _ (fun ρ w' hw => first_any w' n at_ sv (holds_of_abs hw fun R h => hs.later h) i s hi ha) ?_)) | (show Wp _ _ _ _ _ _ _; (refine Wp.go tabOk rfl ?_)) | (show @cmpK _ _ _; (first | refine cmp_yes (by omega) ?_ | refine cmp_no (by omega) ?_ | (refine cmp_both ?_ ?_ <;> intro _))) | (show wrapK _ _ _; (refine wrap_i64 (by omega) (by omega) ?_)) | (show leK _ _ _; (refine le_of (by first | exact Nat.le_refl _ | omega) ?_)) | (show roomK _ _ _; (refine room_of (by first | omega | (dsimp only; omega)) ?_)) | (show ltK _ _ _; (refine lt_of (by omega) ?_)) | (show _ ∧ _; (refine ⟨?_, ?_⟩)) | (show keepK _ _ _ _ _; (refine keep_of (by first | exact List.Sublist.refl _ | exact List.Sublist.cons _ (List.Sublist.refl _) | exact List.Sublist.cons _ (List.Sublist.cons _ (List.Sublist.refl _)) | exact List.Sublist.cons _ (List.Sublist.cons _ (List.Sublist.cons _ (List.Sublist.refl _)))) (by first | exact (fun _ _ h => h) | exact (fun _ _ h => h.1) | exact (fun _ _ h => h.1.1)) ?_)) | (show ownK _ _ _ _ _; (refine own_keep ?_))))
  exact ends_old s (fun _ _ h => h) rfl (.inr (List.mem_of_getElem? hi)) rfl
theorem own_m (w : World) (n : NodeV) (at_ : Int) (sv : ShapesV) :
    Calls Try.prog 86 #[nodeVal n at_ sv.val] w (ShapePost w n sv.l (some n.shape.xs)) := by
  refine calls_of tab tabOk Try.func86 rfl rfl rfl [] (fun _ => ⟨none, 0⟩) [.agg [.c (.int .i64 n.kind), .c (.int .i64 n.a), .c (.int .i64 n.b), .c n.shape.val, .c (.int .i64 n.lo), .c (.int .i64 n.hi), .c (.int .i64 n.size), .c n.data.val, .c n.bias.val, .c (.int .i64 at_), .c sv.val]] [] (baseA w) 0 rfl rfl (by show 1 ≤ _; decide) (abs_base w) ?_
  (repeat' ((conv => whnf) <;> first | (show Wp _ _ _ _ _ _ _; (refine Wp.go tabOk rfl ?_)) | (show @cmpK _ _ _; (first | refine cmp_yes (by omega) ?_ | refine cmp_no (by omega) ?_ | (refine cmp_both ?_ ?_ <;> intro _))) | (show wrapK _ _ _; (refine wrap_i64 (by omega) (by omega) ?_)) | (show leK _ _ _; (refine le_of (by first | exact Nat.le_refl _ | omega) ?_)) | (show roomK _ _ _; (refine room_of (by first | omega | (dsimp only; omega)) ?_)) | (show ltK _ _ _; (refine lt_of (by omega) ?_)) | (show _ ∧ _; (refine ⟨?_, ?_⟩)) | (show keepK _ _ _ _ _; (refine keep_of (by first | exact List.Sublist.refl _ | exact List.Sublist.cons _ (List.Sublist.refl _) | exact List.Sublist.cons _ (List.Sublist.cons _ (List.Sublist.refl _)) | exact List.Sublist.cons _ (List.Sublist.cons _ (List.Sublist.cons _ (List.Sublist.refl _)))) (by first | exact (fun _ _ h => h) | exact (fun _ _ h => h.1) | exact (fun _ _ h => h.1.1)) ?_)) | (show ownK _ _ _ _ _; (refine own_keep ?_))))
  exact ends_old n.shape (fun _ _ h => h) rfl (.inl rfl) rfl
set_option maxRecDepth 20000 in
theorem flat_m (w : World) (n : NodeV) (hn : n.ok w) (at_ : Int) (sv : ShapesV) (hs : sv.ok w) (i : Nat) (s : IntsV) (hi : sv.l[i]? = some s) (ha : n.a = i) :
    Calls Try.prog 91 #[nodeVal n at_ sv.val] w (ShapePost w n sv.l (if entries n.shape.xs = entries s.xs then some n.shape.xs else none)) := by
  have hso := hs.each s (List.mem_of_getElem? hi)
  refine calls_of tab tabOk Try.func91 rfl rfl rfl [] (fun _ => ⟨none, 0⟩) [.agg [.c (.int .i64 n.kind), .c (.int .i64 n.a), .c (.int .i64 n.b), .c n.shape.val, .c (.int .i64 n.lo), .c (.int .i64 n.hi), .c (.int .i64 n.size), .c n.data.val, .c n.bias.val, .c (.int .i64 at_), .c sv.val]] [] (baseA w) 0 rfl rfl (by show 1 ≤ _; decide) (abs_base w) ?_
  (repeat' ((conv => whnf) <;> first | (show callQ _ 115 _ _ _ _ _; (refine callQ_of (f := 115) Try.call115 _ (fun ρ w' hw => first_any w' n at_ sv (holds_of_abs hw fun R h => hs.later h) i s hi ha) ?_)) | (show callQ _ 20 [.c n.shape.val] _ _ _ _; (refine callQ_of (f := 20) Try.call20 _ (fun ρ w' hw => entries_ints w' n.shape (holds_of_abs hw fun R h => hn.shape.later h)) ?_)) | (show callQ _ 20 [.c s.val] _ _ _ _; (refine callQ_of (f := 20) Try.call20 _ (fun ρ w' hw => entries_ints w' s (holds_of_abs hw fun R h => hso.later h)) ?_)) | (show drawK _ 1 _ _ _ _ _ _; (refine draw_quiet tabOk mixed (by kernel_rfl) ?_)) | (show Wp _ _ _ _ _ _ _; (refine Wp.go tabOk rfl ?_)) | (show @cmpK _ _ _; (first | refine cmp_yes (by omega) ?_ | refine cmp_no (by omega) ?_ | (refine cmp_both ?_ ?_ <;> intro _))) | (show wrapK _ _ _; (refine wrap_i64 (by omega) (by omega) ?_)) | (show leK _ _ _; (refine le_of (by first | exact Nat.le_refl _ | omega) ?_)) | (show roomK _ _ _; (refine room_of (by first | omega | (dsimp only; omega)) ?_)) | (show ltK _ _ _; (refine lt_of (by omega) ?_)) | (show _ ∧ _; (refine ⟨?_, ?_⟩)) | (show keepK _ _ _ _ _; (refine keep_of (by first | exact List.Sublist.refl _ | exact List.Sublist.cons _ (List.Sublist.refl _) | exact List.Sublist.cons _ (List.Sublist.cons _ (List.Sublist.refl _)) | exact List.Sublist.cons _ (List.Sublist.cons _ (List.Sublist.cons _ (List.Sublist.refl _)))) (by first | exact (fun _ _ h => h) | exact (fun _ _ h => h.1) | exact (fun _ _ h => h.1.1)) ?_)) | (show ownK _ _ _ _ _; (refine own_keep ?_))))
  · rename_i h
    rw [if_pos h]
    exact ends_old n.shape (fun _ _ h => h) rfl (.inl rfl) rfl
  · rename_i h
    rw [if_neg h]
    exact ends_no (fun _ _ h => h) rfl rfl
set_option maxRecDepth 20000 in
theorem sum_m (w : World) (n : NodeV) (at_ : Int) (sv : ShapesV) (hs : sv.ok w) (i j : Nat) (s t : IntsV) (hi : sv.l[i]? = some s) (ha : n.a = i) (hj : sv.l[j]? = some t) (hb : n.b = j) :
    Calls Try.prog 90 #[nodeVal n at_ sv.val] w (ShapePost w n sv.l (if s.xs = t.xs then some s.xs else none)) := by
  have hso := hs.each s (List.mem_of_getElem? hi)
  have hto := hs.each t (List.mem_of_getElem? hj)
  obtain ⟨hjl, hjt⟩ := List.getElem?_eq_some_iff.1 hj
  have hr : (shRows sv.l)[j]? = some [t.val] := by rw [shRows_get hjl, hjt]
  obtain ⟨a, hb'⟩ : ∃ a, sv.base = some a := base_some (j := j) hs.rows (by rw [shRows_length]; exact hjl)
  refine calls_of tab tabOk Try.func90 rfl rfl rfl [] (fun _ => ⟨none, 0⟩) [.agg [.c (.int .i64 n.kind), .c (.int .i64 n.a), .c (.int .i64 n.b), .c n.shape.val, .c (.int .i64 n.lo), .c (.int .i64 n.hi), .c (.int .i64 n.size), .c n.data.val, .c n.bias.val, .c (.int .i64 at_), .c sv.val]] [] (baseA w) 0 rfl rfl (by show 1 ≤ _; decide) (abs_base w) ?_
  (repeat' ((conv => whnf) <;> first | (show callQ _ 115 _ _ _ _ _; (refine callQ_of (f := 115) Try.call115 _ (fun ρ w' hw => first_any w' n at_ sv (holds_of_abs hw fun R h => hs.later h) i s hi ha) ?_)) | (show idxK _ _ _ _ _; (refine idx_of a j hb' hb hjl ?_)) | (show roK _ _ _; (refine ro_row0 (fun R w' h => by rw [← hb']; exact rows_base h hs.rows) _ _ hr rfl ?_)) | (show callQ _ 116 _ _ _ _ _; ((refine callQ_bool (f := 116) Try.call116 _ (fun ρ w' hw => equal_any w' s t (holds_of_abs hw fun R h => hso.later h) (holds_of_abs hw fun R h => hto.later h)) ?_ ?_ <;> intro he))) | (show drawK _ 1 _ _ _ _ _ _; (refine draw_quiet tabOk mixed (by kernel_rfl) ?_)) | (show Wp _ _ _ _ _ _ _; (refine Wp.go tabOk rfl ?_)) | (show @cmpK _ _ _; (first | refine cmp_yes (by omega) ?_ | refine cmp_no (by omega) ?_ | (refine cmp_both ?_ ?_ <;> intro _))) | (show wrapK _ _ _; (refine wrap_i64 (by omega) (by omega) ?_)) | (show leK _ _ _; (refine le_of (by first | exact Nat.le_refl _ | omega) ?_)) | (show roomK _ _ _; (refine room_of (by first | omega | (dsimp only; omega)) ?_)) | (show ltK _ _ _; (refine lt_of (by omega) ?_)) | (show _ ∧ _; (refine ⟨?_, ?_⟩)) | (show keepK _ _ _ _ _; (refine keep_of (by first | exact List.Sublist.refl _ | exact List.Sublist.cons _ (List.Sublist.refl _) | exact List.Sublist.cons _ (List.Sublist.cons _ (List.Sublist.refl _)) | exact List.Sublist.cons _ (List.Sublist.cons _ (List.Sublist.cons _ (List.Sublist.refl _)))) (by first | exact (fun _ _ h => h) | exact (fun _ _ h => h.1) | exact (fun _ _ h => h.1.1)) ?_)) | (show ownK _ _ _ _ _; (refine own_keep ?_))))
  · rw [if_pos (of_decide_eq_true he)]
    exact ends_old s (fun _ _ h => h) rfl (.inr (List.mem_of_getElem? hi)) rfl
  · rw [if_neg (of_decide_eq_false he)]
    exact ends_no (fun _ _ h => h) rfl rfl

end Go.Proofs.Ytajbngkcgbehlaa
/- GH -/
namespace Go.Proofs.Ytajbngkcgbehlaa
open Go.SX Go.RowKit
theorem i64_of_few {m : Nat} (h : m ≤ 1000000) : -9223372036854775808 ≤ (m : Int) ∧ (m : Int) ≤ 9223372036854775807 := by omega
set_option maxRecDepth 20000 in
set_option maxHeartbeats 2000000 in
theorem dense_m (w : World) (n : NodeV) (hn : n.ok w) (at_ : Int) (sv : ShapesV) (hs : sv.ok w) (i : Nat) (s : IntsV) (hi : sv.l[i]? = some s) (ha : n.a = i) (hbi : n.bias.xs.length ≤ 64) :
    Calls Try.prog 87 #[nodeVal n at_ sv.val] w (ShapePost w n sv.l (if (n.data.xs.length : Int) = n.bias.xs.length * entries s.xs then some [(n.bias.xs.length : Int)] else none)) := by
  have hso := hs.each s (List.mem_of_getElem? hi)
  have hm : 0 ≤ (n.bias.xs.length : Int) * entries s.xs ∧ (n.bias.xs.length : Int) * entries s.xs ≤ 4096 := by
    have h1 := entries_bd s.xs
    have h2 : (n.bias.xs.length : Int) * entries s.xs ≤ 64 * 64 := Int.mul_le_mul (by omega) h1.2 h1.1 (by omega)
    have h3 : 0 ≤ (n.bias.xs.length : Int) * entries s.xs := Int.mul_nonneg (by omega) h1.1
    omega
  refine calls_of tab tabOk Try.func87 rfl rfl rfl [] (fun _ => ⟨none, 0⟩) [.agg [.c (.int .i64 n.kind), .c (.int .i64 n.a), .c (.int .i64 n.b), .c n.shape.val, .c (.int .i64 n.lo), .c (.int .i64 n.hi), .c (.int .i64 n.size), .c n.data.val, .c n.bias.val, .c (.int .i64 at_), .c sv.val]] [] (baseA w) 0 rfl rfl (by show 1 ≤ _; decide) (abs_base w) ?_
  (repeat' ((conv => whnf) <;> first | (show callK _ 115 _ _ _ _ _; (refine call_pure (f := 115) Try.call115 _ (fun ρ w' hw => first_any w' n at_ sv (holds_of_abs hw fun R h => hs.later h) i s hi ha) ?_)) | (show callK _ 20 _ _ _ _ _; (refine call_pure (f := 20) Try.call20 _ (fun ρ w' hw => entries_ints w' s (holds_of_abs hw fun R h => hso.later h)) ?_)) | (show drawK _ 1 _ _ _ _ _ _; (refine draw_tree tabOk mixed [] _ (.take 0 (.take 1 (.take 2 (.take 3 (.take 5 (.take 6 (.take 7 (.take 8 (.take 9 (.take 10 (.take 11 (.take 12 (.take 13 (.alt 4 (.one 14 (.one 15 (.take 16 (.take 17 (.take 18 (.take 19 (.done))))))) (.one 14 (.alt 4 (.one 15 (.take 16 (.take 17 (.take 18 (.take 19 (.done)))))) (.one 15 (.take 16 (.take 17 (.one 4 (.take 18 (.take 19 (.done))))))))))))))))))))))) (by kernel_rfl) (by kernel_rfl) (by kernel_rfl) (List.Sublist.refl _) ?_)) | (show Wp _ _ _ _ _ _ _; (refine Wp.go tabOk rfl ?_)) | (show @cmpK _ _ _; (first | refine cmp_yes (by omega) ?_ | refine cmp_no (by omega) ?_ | (refine cmp_both ?_ ?_ <;> intro _))) | (show wrapK _ _ _; (refine wrap_i64 (by omega) (by omega) ?_)) | (show leK _ _ _; (refine le_of (by first | exact Nat.le_refl _ | omega) ?_)) | (show roomK _ _ _; (refine room_of (by first | omega | (dsimp only; omega)) ?_)) | (show ltK _ _ _; (refine lt_of (by omega) ?_)) | (show _ ∧ _; (refine ⟨?_, ?_⟩)) | (show keepK _ _ _ _ _; (refine keep_of (by first | exact List.Sublist.refl _ | exact List.Sublist.cons _ (List.Sublist.refl _) | exact List.Sublist.cons _ (List.Sublist.cons _ (List.Sublist.refl _)) | exact List.Sublist.cons _ (List.Sublist.cons _ (List.Sublist.cons _ (List.Sublist.refl _)))) (by first | exact (fun _ _ h => h) | exact (fun _ _ h => h.1) | exact (fun _ _ h => h.1.1)) ?_)) | (show ownK _ _ _ _ _; (refine own_keep ?_))))
  all_goals first
    | (rw [if_pos (by omega)]; exact ends_new (fun _ _ h => h) rfl List.mem_cons_self rfl (by intro x hx; simp only [List.mem_singleton] at hx; subst hx; omega) (by simp) rfl)
    | (rw [if_neg (by omega)]; exact ends_no (fun _ _ h => h) rfl rfl)

theorem IntsV.ok.at_ {w : World} {v : IntsV} {a : Addr} (h : v.ok w) (ha : v.base = some a) : ∀ (R : Nat → Prop) w', (baseA w).holds R w' → RowsI w' (some a) 1 (ints v.xs) := fun R w' hb => by rw [← ha]; exact rows_base hb h.rows
theorem mem3 {p : Int → Prop} {a b c : Int} (ha : p a) (hb : p b) (hc : p c) : ∀ x ∈ [a, b, c], p x := by
  intro x hx
  simp only [List.mem_cons, List.not_mem_nil, or_false] at hx
  rcases hx with rfl | rfl | rfl <;> assumption
set_option maxRecDepth 20000 in
set_option maxHeartbeats 4000000 in
theorem pool_m (w : World) (n : NodeV) (hn : n.ok w) (at_ : Int) (sv : ShapesV) (hs : sv.ok w) (i : Nat) (s : IntsV) (hi : sv.l[i]? = some s) (ha : n.a = i) (hz : 0 < n.size) (hg : 0 < entries s.xs) :
    Calls Try.prog 89 #[nodeVal n at_ sv.val] w (ShapePost w n sv.l (if s.xs.length ≠ 3 ∨ s.xs.getD 1 0 % n.size ≠ 0 ∨ s.xs.getD 2 0 % n.size ≠ 0 then none else some [s.xs.getD 0 0, s.xs.getD 1 0 / n.size, s.xs.getD 2 0 / n.size])) := by
  have hso := hs.each s (List.mem_of_getElem? hi)
  obtain ⟨hl1, hl3, hd⟩ := entries_dims hg
  obtain ⟨a, hb⟩ := hso.base (by omega)
  have hd0 : 0 < s.xs.length → 1 ≤ s.xs.getD 0 0 ∧ s.xs.getD 0 0 ≤ 64 := fun h => hd _ (getD_mem h)
  have hd1 : 1 < s.xs.length → 1 ≤ s.xs.getD 1 0 ∧ s.xs.getD 1 0 ≤ 64 := fun h => hd _ (getD_mem h)
  have hd2 : 2 < s.xs.length → 1 ≤ s.xs.getD 2 0 ∧ s.xs.getD 2 0 ≤ 64 := fun h => hd _ (getD_mem h)
  have hq1 : 1 < s.xs.length → 0 ≤ s.xs.getD 1 0 / n.size ∧ s.xs.getD 1 0 / n.size ≤ 64 := fun h => ⟨Int.ediv_nonneg (by omega) (by omega), Int.le_trans (Int.ediv_le_self _ (by omega)) (by omega)⟩
  have hq2 : 2 < s.xs.length → 0 ≤ s.xs.getD 2 0 / n.size ∧ s.xs.getD 2 0 / n.size ≤ 64 := fun h => ⟨Int.ediv_nonneg (by omega) (by omega), Int.le_trans (Int.ediv_le_self _ (by omega)) (by omega)⟩
  refine calls_of tab tabOk Try.func89 rfl rfl rfl [] (fun _ => ⟨none, 0⟩) [.agg [.c (.int .i64 n.kind), .c (.int .i64 n.a), .c (.int .i64 n.b), .c n.shape.val, .c (.int .i64 n.lo), .c (.int .i64 n.hi), .c (.int .i64 n.size), .c n.data.val, .c n.bias.val, .c (.int .i64 at_), .c sv.val]] [] (baseA w) 0 rfl rfl (by show 1 ≤ _; decide) (abs_base w) ?_
  (repeat' ((conv => whnf) <;> first | (show callK _ 115 _ _ _ _ _; (refine call_pure (f := 115) Try.call115 _ (fun ρ w' hw => first_any w' n at_ sv (holds_of_abs hw fun R h => hs.later h) i s hi ha) ?_)) | (show idxK _ _ _ _ _; (refine idx_of _ 0 hb rfl (by omega) ?_)) | (show roK _ _ _; (refine ro_int (hso.at_ hb) (j := 0) (by omega) ?_)) | (show idxK _ _ _ _ _; (refine idx_of _ 1 hb rfl (by omega) ?_)) | (show roK _ _ _; (refine ro_int (hso.at_ hb) (j := 1) (by omega) ?_)) | (show idxK _ _ _ _ _; (refine idx_of _ 2 hb rfl (by omega) ?_)) | (show roK _ _ _; (refine ro_int (hso.at_ hb) (j := 2) (by omega) ?_)) | (show remK _ _ _; (refine rem_pos (by omega) (by omega) ?_)) | (show divK _ _ _ _; (refine div_pos rfl (by omega) (by omega) (by omega) ?_)) | (show drawK _ 2 _ _ _ _ _ _; (refine draw_quiet tabOk mixed (by kernel_rfl) ?_)) | (show drawK _ 4 _ _ _ _ _ _; (refine draw_tree tabOk mixed [] _ (.take 0 (.take 1 (.take 2 (.take 3 (.take 4 (.take 5 (.take 6 (.take 7 (.take 8 (.take 9 (.take 10 (.take 11 (.take 12 (.take 13 (.take 14 (.take 15 (.take 16 (.one 17 (.take 18 (.take 19 (.done))))))))))))))))))))) (by kernel_rfl) (by kernel_rfl) (by kernel_rfl) (List.Sublist.refl _) ?_)) | (show Wp _ _ _ _ _ _ _; (refine Wp.go tabOk rfl ?_)) | (show @cmpK _ _ _; (first | refine cmp_yes (by omega) ?_ | refine cmp_no (by omega) ?_ | (refine cmp_both ?_ ?_ <;> intro _))) | (show wrapK _ _ _; (refine wrap_i64 (by omega) (by omega) ?_)) | (show leK _ _ _; (refine le_of (by first | exact Nat.le_refl _ | omega) ?_)) | (show roomK _ _ _; (refine room_of (by first | omega | (dsimp only; omega)) ?_)) | (show ltK _ _ _; (refine lt_of (by omega) ?_)) | (show _ ∧ _; (refine ⟨?_, ?_⟩)) | (show keepK _ _ _ _ _; (refine keep_of (by first | exact List.Sublist.refl _ | exact List.Sublist.cons _ (List.Sublist.refl _) | exact List.Sublist.cons _ (List.Sublist.cons _ (List.Sublist.refl _)) | exact List.Sublist.cons _ (List.Sublist.cons _ (List.Sublist.cons _ (List.Sublist.refl _)))) (by first | exact (fun _ _ h => h) | exact (fun _ _ h => h.1) | exact (fun _ _ h => h.1.1)) ?_)) | (show ownK _ _ _ _ _; (refine own_keep ?_))))
  all_goals first
    | (rw [if_neg (by omega)]; exact ends_new (fun _ _ h => h) rfl List.mem_cons_self rfl (mem3 (by omega) (by omega) (by omega)) (by simp) rfl)
    | (rw [if_pos (by omega)]; exact ends_no (fun _ _ h => h) rfl rfl)

set_option maxRecDepth 20000 in
set_option maxHeartbeats 4000000 in
theorem conv_m (w : World) (n : NodeV) (hn : n.ok w) (at_ : Int) (sv : ShapesV) (hs : sv.ok w) (i : Nat) (s : IntsV) (hi : sv.l[i]? = some s) (ha : n.a = i) (hk : 0 < kernelI n.shape.xs) (hg : 0 < entries s.xs) :
    Calls Try.prog 88 #[nodeVal n at_ sv.val] w (ShapePost w n sv.l (
      if s.xs.length ≠ 3 ∨ s.xs.getD 0 0 ≠ n.shape.xs.getD 1 0 ∨ s.xs.getD 1 0 < n.shape.xs.getD 2 0 ∨ s.xs.getD 2 0 < n.shape.xs.getD 3 0 then none
      else if 0 < entries [n.shape.xs.getD 0 0, s.xs.getD 1 0 - n.shape.xs.getD 2 0 + 1, s.xs.getD 2 0 - n.shape.xs.getD 3 0 + 1] then some [n.shape.xs.getD 0 0, s.xs.getD 1 0 - n.shape.xs.getD 2 0 + 1, s.xs.getD 2 0 - n.shape.xs.getD 3 0 + 1] else none)) := by
  have hso := hs.each s (List.mem_of_getElem? hi)
  obtain ⟨hl1, hl3, hd⟩ := entries_dims hg
  obtain ⟨a, hb⟩ := hso.base (by omega)
  obtain ⟨hk4, hkd⟩ := kernel_dims hk
  obtain ⟨c, hc⟩ := hn.shape.base (by omega)
  have hd0 : 0 < s.xs.length → 1 ≤ s.xs.getD 0 0 ∧ s.xs.getD 0 0 ≤ 64 := fun h => hd _ (getD_mem h)
  have hd1 : 1 < s.xs.length → 1 ≤ s.xs.getD 1 0 ∧ s.xs.getD 1 0 ≤ 64 := fun h => hd _ (getD_mem h)
  have hd2 : 2 < s.xs.length → 1 ≤ s.xs.getD 2 0 ∧ s.xs.getD 2 0 ≤ 64 := fun h => hd _ (getD_mem h)
  have hk0 := hkd _ (getD_mem (k := 0) (by omega))
  have hk1 := hkd _ (getD_mem (k := 1) (by omega))
  have hk2 := hkd _ (getD_mem (k := 2) (by omega))
  have hk3 := hkd _ (getD_mem (k := 3) (by omega))
  refine calls_of tab tabOk Try.func88 rfl rfl rfl [] (fun _ => ⟨none, 0⟩) [.agg [.c (.int .i64 n.kind), .c (.int .i64 n.a), .c (.int .i64 n.b), .c n.shape.val, .c (.int .i64 n.lo), .c (.int .i64 n.hi), .c (.int .i64 n.size), .c n.data.val, .c n.bias.val, .c (.int .i64 at_), .c sv.val]] [] (baseA w) 0 rfl rfl (by show 1 ≤ _; decide) (abs_base w) ?_
  (repeat' ((conv => whnf) <;> first | (show callK _ 115 _ _ _ _ _; (refine call_pure (f := 115) Try.call115 _ (fun ρ w' hw => first_any w' n at_ sv (holds_of_abs hw fun R h => hs.later h) i s hi ha) ?_)) | (show idxK _ _ _ _ _; (refine idx_of _ 0 hb rfl (by omega) ?_)) | (show roK _ _ _; (refine ro_int (hso.at_ hb) (j := 0) (by omega) ?_)) | (show idxK _ _ _ _ _; (refine idx_of _ 1 hb rfl (by omega) ?_)) | (show roK _ _ _; (refine ro_int (hso.at_ hb) (j := 1) (by omega) ?_)) | (show idxK _ _ _ _ _; (refine idx_of _ 2 hb rfl (by omega) ?_)) | (show roK _ _ _; (refine ro_int (hso.at_ hb) (j := 2) (by omega) ?_)) | (show idxK _ _ _ _ _; (refine idx_of _ 0 hc rfl (by omega) ?_)) | (show roK _ _ _; (refine ro_int (hn.shape.at_ hc) (j := 0) (by omega) ?_)) | (show idxK _ _ _ _ _; (refine idx_of _ 1 hc rfl (by omega) ?_)) | (show roK _ _ _; (refine ro_int (hn.shape.at_ hc) (j := 1) (by omega) ?_)) | (show idxK _ _ _ _ _; (refine idx_of _ 2 hc rfl (by omega) ?_)) | (show roK _ _ _; (refine ro_int (hn.shape.at_ hc) (j := 2) (by omega) ?_)) | (show idxK _ _ _ _ _; (refine idx_of _ 3 hc rfl (by omega) ?_)) | (show roK _ _ _; (refine ro_int (hn.shape.at_ hc) (j := 3) (by omega) ?_)) | (show callK _ 20 _ _ _ _ _; (refine call_pure (f := 20) Try.call20 _ (fun ρ w' hw => entries_any w' (ρ 1).base (ρ 1).cap [n.shape.xs.getD 0 0, s.xs.getD 1 0 - n.shape.xs.getD 2 0 + 1, s.xs.getD 2 0 - n.shape.xs.getD 3 0 + 1] (rows_of_abs hw List.mem_cons_self)) ?_)) | (show drawK _ 2 _ _ _ _ _ _; (refine draw_quiet tabOk mixed (by kernel_rfl) ?_)) | (show drawK _ 4 _ _ _ _ _ _; (refine draw_tree tabOk mixed [] _ (.take 0 (.take 1 (.take 2 (.take 3 (.take 4 (.take 5 (.take 6 (.take 7 (.take 8 (.take 9 (.take 10 (.take 11 (.take 12 (.take 13 (.take 14 (.take 15 (.take 16 (.take 17 (.take 18 (.take 19 (.take 20 (.take 21 (.take 22 (.take 23 (.take 24 (.one 25 (.take 26 (.done)))))))))))))))))))))))))))) (by kernel_rfl) (by kernel_rfl) (by kernel_rfl) (List.Sublist.refl _) ?_)) | (show Wp _ _ _ _ _ _ _; (refine Wp.go tabOk rfl ?_)) | (show @cmpK _ _ _; (first | refine cmp_yes (by omega) ?_ | refine cmp_no (by omega) ?_ | (refine cmp_both ?_ ?_ <;> intro _))) | (show wrapK _ _ _; (refine wrap_i64 (by omega) (by omega) ?_)) | (show leK _ _ _; (refine le_of (by first | exact Nat.le_refl _ | omega) ?_)) | (show roomK _ _ _; (refine room_of (by first | omega | (dsimp only; omega)) ?_)) | (show ltK _ _ _; (refine lt_of (by omega) ?_)) | (show _ ∧ _; (refine ⟨?_, ?_⟩)) | (show keepK _ _ _ _ _; (refine keep_of (by first | exact List.Sublist.refl _ | exact List.Sublist.cons _ (List.Sublist.refl _) | exact List.Sublist.cons _ (List.Sublist.cons _ (List.Sublist.refl _)) | exact List.Sublist.cons _ (List.Sublist.cons _ (List.Sublist.cons _ (List.Sublist.refl _)))) (by first | exact (fun _ _ h => h) | exact (fun _ _ h => h.1) | exact (fun _ _ h => h.1.1)) ?_)) | (show ownK _ _ _ _ _; (refine own_keep ?_))))
  all_goals first
    | (rw [if_neg (by omega), if_pos (by omega)]; exact ends_new (fun _ _ h => h) rfl List.mem_cons_self rfl (mem3 (by omega) (by omega) (by omega)) (by simp) rfl)
    | (rw [if_neg (by omega), if_neg (by omega)]; exact ends_no (fun _ _ h => h) rfl rfl)
    | (rw [if_pos (by omega)]; exact ends_no (fun _ _ h => h) rfl rfl)
end Go.Proofs.Ytajbngkcgbehlaa
/- GI -/
namespace Go.Proofs.Ytajbngkcgbehlaa
open Go.SX Go.RowKit
theorem call_shape {cx : Cx} {f : FuncId} {args : List SV} {H : Heap} {S : Asn} {nx : Nat} {K : SV → Heap → Asn → Nat → Prop} {n : NodeV} {l : List IntsV} (R0 : Option (List Int)) {r : Option (List Int)} (hf : ∀ ar w, (callFunc f ar).run cx.P w = .ok (.enter f ar) w) (hr : R0 = r)
    (hc : ∀ ρ w', Abs cx.B ρ nx H S w' → Calls cx.P f (SV.rfs ρ args).toArray w' (ShapePost w' n l r))
    (h0 : R0 = none → ∀ v, K (.c (.tuple #[v, .bool false])) H S nx)
    (h1 : ∀ u : IntsV, R0 = some u.xs → (u = n.shape ∨ u ∈ l) → K (.c (.tuple #[u.val, .bool true])) H S nx)
    (h2 : ∀ u : IntsV, R0 = some u.xs → u.sane → K (.c (.tuple #[u.val, .bool true])) H (S.and (newA cx.B.w0.heap.size u)) nx) : callK cx f args H S nx K := by
  subst hr
  rw [callK_def]
  refine ⟨hf, fun ρ w hw => (hc ρ w hw).mono ?_⟩
  rintro e w' ⟨v, ok, rfl, he, hok, hv⟩
  cases hr : R0 with
  | none =>
    rw [hr] at hok
    obtain rfl : ok = false := hok
    exact ⟨.c (.tuple #[v, .bool false]), ρ, H, S, nx, rfl, fun _ _ => rfl, Nat.le_refl _, SV.lt_c _, hw.ext he, h0 hr v⟩
  | some xs =>
    rw [hr] at hok
    obtain rfl : ok = true := hok
    obtain ⟨u, rfl, hu, hcase⟩ := hv xs hr
    rw [← hu] at hr
    rcases hcase with hcase | hcase | ⟨hsane, hnew⟩
    · exact ⟨.c (.tuple #[u.val, .bool true]), ρ, H, S, nx, rfl, fun _ _ => rfl, Nat.le_refl _, SV.lt_c _, hw.ext he, h1 u hr (.inl hcase)⟩
    · exact ⟨.c (.tuple #[u.val, .bool true]), ρ, H, S, nx, rfl, fun _ _ => rfl, Nat.le_refl _, SV.lt_c _, hw.ext he, h1 u hr (.inr hcase)⟩
    · refine ⟨.c (.tuple #[u.val, .bool true]), ρ, H, S.and (newA cx.B.w0.heap.size u), nx, rfl, fun _ _ => rfl, Nat.le_refl _, SV.lt_c _, ?_, h2 u hr hsane⟩
      obtain ⟨R, φ, hwR⟩ := hw
      have hwR' := hwR.step (Step.of_ext he) (fun _ _ h => h) (fun _ _ _ _ h => h)
      refine ⟨fun b => R b ∨ (w.heap.size ≤ b ∧ b < w'.heap.size), φ, hwR'.os, hwR'.tape, hwR'.output, hwR'.size, hwR'.pin, fun b hb => hb.elim (hwR'.ro b) (fun h => h.2), ⟨S.stable (fun _ h => .inl h) (fun _ _ => rfl) hwR'.asn, ?_⟩, hwR'.key, hwR'.ent, fun p hp b hb hb' => ?_, hwR'.sep⟩
      · exact (intsA u).stable (fun b hb => ⟨.inr hb, Nat.le_trans hwR.size hb.1⟩) (fun _ _ => rfl) hnew
      · rcases hb' with hb' | hb'
        · exact hwR'.apart p hp b hb hb'
        · have := Ent.size (hwR.ent p hp) hb; omega
theorem ends_newA {B : Base} {H : Heap} {S : Asn} {nx : Nat} {w : World} {n : NodeV} {l : List IntsV} {r : Option (List Int)} (u : IntsV) (hb : ∀ R w', S.holds R w' → (baseA B.w0).holds R w') (hw0 : B.w0 = w) (hs : u.sane) (hr : r = some u.xs) :
    finK B (.tup [.c u.val, .c (.bool true)]) H (S.and (newA B.w0.heap.size u)) nx (ShapePost w n l r) := by
  subst hw0 hr
  refine fin_of fun ρ w' hw => ⟨_, true, rfl, ext_of_abs hw (fun R w' h => hb R w' h.1), rfl, fun xs h => ⟨u, rfl, by simpa using h, .inr (.inr ⟨hs, ?_⟩)⟩⟩
  obtain ⟨R, φ, hw⟩ := hw
  exact (intsA u).stable (fun b hb => ⟨hb.2, hw.ro b hb.1⟩) (fun _ _ => rfl) hw.asn.2

set_option maxRecDepth 20000 in
set_option maxHeartbeats 4000000 in
theorem shape_any (w : World) (n : NodeV) (hn : n.ok w) (at_ : Int) (sv : ShapesV) (hs : sv.ok w) (hf : Formed n sv.l.length) (hg : ∀ s ∈ sv.l, 0 < entries s.xs) :
    Calls Try.prog 43 #[nodeVal n at_ sv.val] w (ShapePost w n sv.l (shapeO n (sv.l.map (·.xs)))) := by
  by_cases h12 : n.kind = 1 ∨ n.kind = 2
  · have hsp : shapeO n (sv.l.map (·.xs)) = some n.shape.xs := by unfold shapeO; rw [if_pos h12]
    refine calls_of tab tabOk Try.func43 rfl rfl rfl [] (fun _ => ⟨none, 0⟩) [.agg [.c (.int .i64 n.kind), .c (.int .i64 n.a), .c (.int .i64 n.b), .c n.shape.val, .c (.int .i64 n.lo), .c (.int .i64 n.hi), .c (.int .i64 n.size), .c n.data.val, .c n.bias.val, .c (.int .i64 at_), .c sv.val]] [] (baseA w) 0 rfl rfl (by show 1 ≤ _; decide) (abs_base w) ?_
    (repeat' ((conv => whnf) <;> first | (show callK _ 86 _ _ _ _ _; (refine call_shape (f := 86) (n := n) (l := sv.l) (shapeO n (sv.l.map (·.xs))) Try.call86 hsp (fun ρ w' hw => own_m w' n at_ sv) ?_ ?_ ?_ <;> intros)) | (show Wp _ _ _ _ _ _ _; (refine Wp.go tabOk rfl ?_)) | (show @cmpK _ _ _; (first | refine cmp_yes (by omega) ?_ | refine cmp_no (by omega) ?_ | (refine cmp_both ?_ ?_ <;> intro _))) | (show wrapK _ _ _; (refine wrap_i64 (by omega) (by omega) ?_)) | (show leK _ _ _; (refine le_of (by first | exact Nat.le_refl _ | omega) ?_)) | (show roomK _ _ _; (refine room_of (by first | omega | (dsimp only; omega)) ?_)) | (show ltK _ _ _; (refine lt_of (by omega) ?_)) | (show _ ∧ _; (refine ⟨?_, ?_⟩)) | (show keepK _ _ _ _ _; (refine keep_of (by first | exact List.Sublist.refl _ | exact List.Sublist.cons _ (List.Sublist.refl _) | exact List.Sublist.cons _ (List.Sublist.cons _ (List.Sublist.refl _)) | exact List.Sublist.cons _ (List.Sublist.cons _ (List.Sublist.cons _ (List.Sublist.refl _)))) (by first | exact (fun _ _ h => h) | exact (fun _ _ h => h.1) | exact (fun _ _ h => h.1.1)) ?_)) | (show ownK _ _ _ _ _; (refine own_keep ?_))))
    all_goals first
      | exact ends_no (fun _ _ h => h) rfl (by assumption)
      | exact ends_old _ (fun _ _ h => h) rfl (by assumption) (by assumption)
      | exact ends_newA _ (fun _ _ h => h) rfl (by assumption) (by assumption)
  · obtain ⟨ha0, ha1⟩ := hf.a (by omega) (by omega)
    obtain ⟨i, hia⟩ := Int.eq_ofNat_of_zero_le ha0
    have hil : i < sv.l.length := by omega
    obtain ⟨s, hi⟩ : ∃ s, sv.l[i]? = some s := ⟨_, List.getElem?_eq_getElem hil⟩
    have hA : (sv.l.map (·.xs)).getD n.a.toNat [] = s.xs := by rw [hia]; simp [List.getD, hi]
    have hgs := hg s (List.mem_of_getElem? hi)
    by_cases h6 : n.kind = 6
    · obtain ⟨hb0, hb1⟩ := hf.b h6
      obtain ⟨j, hjb⟩ := Int.eq_ofNat_of_zero_le hb0
      have hjl : j < sv.l.length := by omega
      obtain ⟨t, hj⟩ : ∃ t, sv.l[j]? = some t := ⟨_, List.getElem?_eq_getElem hjl⟩
      have hB : (sv.l.map (·.xs)).getD n.b.toNat [] = t.xs := by rw [hjb]; simp [List.getD, hj]
      have hsp : shapeO n (sv.l.map (·.xs)) = if s.xs = t.xs then some s.xs else none := by
        unfold shapeO; simp only [hA, hB]; repeat (first | rw [if_pos (by omega)] | rw [if_neg (by omega)])
      refine calls_of tab tabOk Try.func43 rfl rfl rfl [] (fun _ => ⟨none, 0⟩) [.agg [.c (.int .i64 n.kind), .c (.int .i64 n.a), .c (.int .i64 n.b), .c n.shape.val, .c (.int .i64 n.lo), .c (.int .i64 n.hi), .c (.int .i64 n.size), .c n.data.val, .c n.bias.val, .c (.int .i64 at_), .c sv.val]] [] (baseA w) 0 rfl rfl (by show 1 ≤ _; decide) (abs_base w) ?_
      (repeat' ((conv => whnf) <;> first | (show callK _ 90 _ _ _ _ _; (refine call_shape (f := 90) (n := n) (l := sv.l) (shapeO n (sv.l.map (·.xs))) Try.call90 hsp (fun ρ w' hw => sum_m w' n at_ sv (holds_of_abs hw fun R h => hs.later h) i j s t hi hia hj hjb) ?_ ?_ ?_ <;> intros)) | (show Wp _ _ _ _ _ _ _; (refine Wp.go tabOk rfl ?_)) | (show @cmpK _ _ _; (first | refine cmp_yes (by omega) ?_ | refine cmp_no (by omega) ?_ | (refine cmp_both ?_ ?_ <;> intro _))) | (show wrapK _ _ _; (refine wrap_i64 (by omega) (by omega) ?_)) | (show leK _ _ _; (refine le_of (by first | exact Nat.le_refl _ | omega) ?_)) | (show roomK _ _ _; (refine room_of (by first | omega | (dsimp only; omega)) ?_)) | (show ltK _ _ _; (refine lt_of (by omega) ?_)) | (show _ ∧ _; (refine ⟨?_, ?_⟩)) | (show keepK _ _ _ _ _; (refine keep_of (by first | exact List.Sublist.refl _ | exact List.Sublist.cons _ (List.Sublist.refl _) | exact List.Sublist.cons _ (List.Sublist.cons _ (List.Sublist.refl _)) | exact List.Sublist.cons _ (List.Sublist.cons _ (List.Sublist.cons _ (List.Sublist.refl _)))) (by first | exact (fun _ _ h => h) | exact (fun _ _ h => h.1) | exact (fun _ _ h => h.1.1)) ?_)) | (show ownK _ _ _ _ _; (refine own_keep ?_))))
      all_goals first
        | exact ends_no (fun _ _ h => h) rfl (by assumption)
        | exact ends_old _ (fun _ _ h => h) rfl (by assumption) (by assumption)
        | exact ends_newA _ (fun _ _ h => h) rfl (by assumption) (by assumption)
    · refine calls_of tab tabOk Try.func43 rfl rfl rfl [] (fun _ => ⟨none, 0⟩) [.agg [.c (.int .i64 n.kind), .c (.int .i64 n.a), .c (.int .i64 n.b), .c n.shape.val, .c (.int .i64 n.lo), .c (.int .i64 n.hi), .c (.int .i64 n.size), .c n.data.val, .c n.bias.val, .c (.int .i64 at_), .c sv.val]] [] (baseA w) 0 rfl rfl (by show 1 ≤ _; decide) (abs_base w) ?_
      (repeat' ((conv => whnf) <;> first | (show callK _ 85 _ _ _ _ _; (refine call_shape (f := 85) (n := n) (l := sv.l) (shapeO n (sv.l.map (·.xs))) Try.call85 (by unfold shapeO; simp only [hA]; repeat (first | rw [if_pos (by omega)] | rw [if_neg (by omega)])) (fun ρ w' hw => same_m w' n at_ sv (holds_of_abs hw fun R h => hs.later h) i s hi hia) ?_ ?_ ?_ <;> intros)) | (show callK _ 87 _ _ _ _ _; (refine call_shape (f := 87) (n := n) (l := sv.l) (shapeO n (sv.l.map (·.xs))) Try.call87 (by unfold shapeO; simp only [hA]; repeat (first | rw [if_pos (by omega)] | rw [if_neg (by omega)])) (fun ρ w' hw => dense_m w' n (holds_of_abs hw fun R h => hn.later h) at_ sv (holds_of_abs hw fun R h => hs.later h) i s hi hia (hf.bias (by omega)).2) ?_ ?_ ?_ <;> intros)) | (show callK _ 88 _ _ _ _ _; (refine call_shape (f := 88) (n := n) (l := sv.l) (shapeO n (sv.l.map (·.xs))) Try.call88 (by unfold shapeO; simp only [hA]; repeat (first | rw [if_pos (by omega)] | rw [if_neg (by omega)])) (fun ρ w' hw => conv_m w' n (holds_of_abs hw fun R h => hn.later h) at_ sv (holds_of_abs hw fun R h => hs.later h) i s hi hia (hf.kern (by omega)) hgs) ?_ ?_ ?_ <;> intros)) | (show callK _ 89 _ _ _ _ _; (refine call_shape (f := 89) (n := n) (l := sv.l) (shapeO n (sv.l.map (·.xs))) Try.call89 (by unfold shapeO; simp only [hA]; repeat (first | rw [if_pos (by omega)] | rw [if_neg (by omega)])) (fun ρ w' hw => pool_m w' n (holds_of_abs hw fun R h => hn.later h) at_ sv (holds_of_abs hw fun R h => hs.later h) i s hi hia (hf.pool (by omega)) hgs) ?_ ?_ ?_ <;> intros)) | (show callK _ 91 _ _ _ _ _; (refine call_shape (f := 91) (n := n) (l := sv.l) (shapeO n (sv.l.map (·.xs))) Try.call91 (by unfold shapeO; simp only [hA]; repeat (first | rw [if_pos (by omega)] | rw [if_neg (by omega)])) (fun ρ w' hw => flat_m w' n (holds_of_abs hw fun R h => hn.later h) at_ sv (holds_of_abs hw fun R h => hs.later h) i s hi hia) ?_ ?_ ?_ <;> intros)) | (show Wp _ _ _ _ _ _ _; (refine Wp.go tabOk rfl ?_)) | (show @cmpK _ _ _; (first | refine cmp_yes (by omega) ?_ | refine cmp_no (by omega) ?_ | (refine cmp_both ?_ ?_ <;> intro _))) | (show wrapK _ _ _; (refine wrap_i64 (by omega) (by omega) ?_)) | (show leK _ _ _; (refine le_of (by first | exact Nat.le_refl _ | omega) ?_)) | (show roomK _ _ _; (refine room_of (by first | omega | (dsimp only; omega)) ?_)) | (show ltK _ _ _; (refine lt_of (by omega) ?_)) | (show _ ∧ _; (refine ⟨?_, ?_⟩)) | (show keepK _ _ _ _ _; (refine keep_of (by first | exact List.Sublist.refl _ | exact List.Sublist.cons _ (List.Sublist.refl _) | exact List.Sublist.cons _ (List.Sublist.cons _ (List.Sublist.refl _)) | exact List.Sublist.cons _ (List.Sublist.cons _ (List.Sublist.cons _ (List.Sublist.refl _)))) (by first | exact (fun _ _ h => h) | exact (fun _ _ h => h.1) | exact (fun _ _ h => h.1.1)) ?_)) | (show ownK _ _ _ _ _; (refine own_keep ?_))))
      all_goals first
        | exact ends_no (fun _ _ h => h) rfl (by assumption)
        | exact ends_old _ (fun _ _ h => h) rfl (by assumption) (by assumption)
        | exact ends_newA _ (fun _ _ h => h) rfl (by assumption) (by assumption)
end Go.Proofs.Ytajbngkcgbehlaa
/- GJ -/
namespace Go.Proofs.Ytajbngkcgbehlaa
open Go.SX Go.RowKit
theorem slice_nil {base : Option Addr} {len cap size : Nat} {K : SV → Prop} (hb : base = none) (hl : len = 0) (h : K (.c (.slice none 0 0))) : sliceK base len cap size none (some (len : Int)) (some (len : Int)) K := by
  subst hb hl
  exact slice_full (Nat.zero_le _) h
theorem slice_some {base : Option Addr} {len cap size : Nat} {K : SV → Prop} {a : Addr} (hb : base = some a) (hc : len ≤ cap) (h : K (.c (.slice (some a) len len))) : sliceK base len cap size none (some (len : Int)) (some (len : Int)) K := by
  subst hb
  exact slice_full hc h
/-- one's own numbers -/
theorem own_ints {B : Base} {ρ : Nat → SX.Loc} {nx : Nat} {H : Heap} {S : Asn} {w : World} {i m : Nat} {T : TypeId} {R : List (List Value)} {xs : List Int} (hw : Abs B ρ nx H S w) (he : (i, Ent.rows R 1 T) ∈ H) (hR : R = ints xs) (hm : m = xs.length) (hf : ∀ x ∈ xs, i64 x) (hl : xs.length ≤ 1000000) :
    ∃ v : IntsV, (SV.rfs ρ [.os i m]).toArray = #[v.val] ∧ v.xs = xs ∧ v.ok w := by
  subst hR hm
  refine ⟨⟨(ρ i).base, (ρ i).cap, xs⟩, rfl, rfl, rows_of_abs hw he, hf, ?_, hl⟩
  obtain ⟨R, φ, hw⟩ := hw
  have := (hw.ent _ he).2.1
  simpa [ints_length] using this
theorem max_own {B : Base} {ρ : Nat → SX.Loc} {nx : Nat} {H : Heap} {S : Asn} {w : World} {i m : Nat} {T : TypeId} {R : List (List Value)} {xs : List Int} (hw : Abs B ρ nx H S w) (he : (i, Ent.rows R 1 T) ∈ H) (hR : R = ints xs) (hm : m = xs.length) (hf : ∀ x ∈ xs, i64 x) (hl : xs.length ≤ 1000000) (h1 : 1 ≤ xs.length) :
    Calls Try.prog 78 (SV.rfs ρ [.os i m]).toArray w fun e w' => e = .returned (.int .i64 (foldI max xs)) ∧ Ext w w' := by
  obtain ⟨v, e1, rfl, hv⟩ := own_ints hw he hR hm hf hl
  rw [e1]; exact max_any w v hv h1
theorem min_own {B : Base} {ρ : Nat → SX.Loc} {nx : Nat} {H : Heap} {S : Asn} {w : World} {i m : Nat} {T : TypeId} {R : List (List Value)} {xs : List Int} (hw : Abs B ρ nx H S w) (he : (i, Ent.rows R 1 T) ∈ H) (hR : R = ints xs) (hm : m = xs.length) (hf : ∀ x ∈ xs, i64 x) (hl : xs.length ≤ 1000000) (h1 : 1 ≤ xs.length) :
    Calls Try.prog 77 (SV.rfs ρ [.os i m]).toArray w fun e w' => e = .returned (.int .i64 (foldI min xs)) ∧ Ext w w' := by
  obtain ⟨v, e1, rfl, hv⟩ := own_ints hw he hR hm hf hl
  rw [e1]; exact min_any w v hv h1

theorem foldl_max_le : ∀ (xs : List Int) (a b : Int), xs.foldl max a ≤ b ↔ a ≤ b ∧ ∀ x ∈ xs, x ≤ b
  | [], a, b => by simp
  | x :: r, a, b => by
    rw [List.foldl_cons, foldl_max_le r]
    simp only [List.mem_cons, forall_eq_or_imp]
    constructor
    · rintro ⟨h1, h2⟩; exact ⟨by omega, by omega, h2⟩
    · rintro ⟨h1, h2, h3⟩; exact ⟨by omega, h3⟩
theorem le_foldl_min : ∀ (xs : List Int) (a b : Int), b ≤ xs.foldl min a ↔ b ≤ a ∧ ∀ x ∈ xs, b ≤ x
  | [], a, b => by simp
  | x :: r, a, b => by
    rw [List.foldl_cons, le_foldl_min r]
    simp only [List.mem_cons, forall_eq_or_imp]
    constructor
    · rintro ⟨h1, h2⟩; exact ⟨by omega, by omega, h2⟩
    · rintro ⟨h1, h2, h3⟩; exact ⟨by omega, h3⟩
theorem foldI_max_le {xs : List Int} {b : Int} (h : xs ≠ []) : foldI max xs ≤ b ↔ ∀ x ∈ xs, x ≤ b := by
  cases xs with
  | nil => exact absurd rfl h
  | cons x r => simp only [foldI, foldl_max_le, List.mem_cons, forall_eq_or_imp]
theorem le_foldI_min {xs : List Int} {b : Int} (h : xs ≠ []) : b ≤ foldI min xs ↔ ∀ x ∈ xs, b ≤ x := by
  cases xs with
  | nil => exact absurd rfl h
  | cons x r => simp only [foldI, le_foldl_min, List.mem_cons, forall_eq_or_imp]
theorem nearL_fold (xs : List Int) : nearL xs = decide (foldI max (xs ++ [0]) ≤ 1048576 ∧ -1048576 ≤ foldI min (xs ++ [0])) := by
  rw [nearL, Bool.eq_iff_iff]
  simp only [List.all_eq_true, decide_eq_true_eq]
  rw [foldI_max_le (by simp), le_foldI_min (by simp)]
  simp only [List.mem_append, List.mem_singleton]
  constructor
  · intro h
    exact ⟨fun x hx => hx.elim (fun g => (h x g).2) (fun g => by omega), fun x hx => hx.elim (fun g => (h x g).1) (fun g => by omega)⟩
  · rintro ⟨h1, h2⟩ x hx
    exact ⟨h2 x (.inl hx), h1 x (.inl hx)⟩
@[irreducible] def nearB (n : NodeV) : Bool := nearL n.data.xs && nearL n.bias.xs && nearL [n.lo, n.hi] && decide (n.lo ≤ n.hi)

theorem base_cases {w : World} {v : IntsV} (h : v.ok w) : (v.base = none ∧ v.xs = []) ∨ ∃ a, v.base = some a := by
  cases hb : v.base with
  | none =>
    left
    refine ⟨rfl, ?_⟩
    rcases h.rows with h | ⟨a, ha, _⟩
    · simpa [ints] using h
    · rw [hb] at ha; cases ha
  | some a => exact .inr ⟨a, rfl⟩
theorem i64_app {xs : List Int} (h : ∀ x ∈ xs, -9223372036854775808 ≤ x ∧ x ≤ 9223372036854775807) : ∀ x ∈ xs ++ [0], i64 x := by
  intro x hx
  rcases List.mem_append.1 hx with hx | hx
  · exact h x hx
  · simp at hx; subst hx; exact ⟨by decide, by decide⟩
set_option maxRecDepth 20000 in
set_option maxHeartbeats 8000000 in
theorem near_any (w : World) (n : NodeV) (hn : n.ok w) (hd : n.data.xs.length ≤ 5000) (hbi : n.bias.xs.length ≤ 5000) (at_ : Int) (sv : Value) :
    Calls Try.prog 44 #[nodeVal n at_ sv] w fun e w' => e = .returned (.bool (nearB n)) ∧ Ext w w' := by
  have hD := nearL_fold n.data.xs
  have hBi := nearL_fold n.bias.xs
  have hL := nearL_fold [n.lo, n.hi]
  have fD := i64_app hn.data.fits
  have fB := i64_app hn.bias.fits
  have fL : ∀ x ∈ [n.lo, n.hi] ++ [0], i64 x := i64_app (by intro x hx; simp at hx; rcases hx with rfl | rfl; exact hn.loFits; exact hn.hiFits)
  have hfD := hn.data.room
  have hfB := hn.bias.room
  have hDn : n.data.xs = [] → foldI max (n.data.xs ++ [0]) = 0 ∧ foldI min (n.data.xs ++ [0]) = 0 := fun h => by rw [h]; exact ⟨rfl, rfl⟩
  have hBn : n.bias.xs = [] → foldI max (n.bias.xs ++ [0]) = 0 ∧ foldI min (n.bias.xs ++ [0]) = 0 := fun h => by rw [h]; exact ⟨rfl, rfl⟩
  rcases base_cases hn.data with ⟨bD, xD⟩ | ⟨aD, bD⟩ <;> rcases base_cases hn.bias with ⟨bB, xB⟩ | ⟨aB, bB⟩
  all_goals
    try have qD := hDn xD
    try have qB := hBn xB
    refine calls_of tab tabOk Try.func44 rfl rfl rfl [] (fun _ => ⟨none, 0⟩) [.agg [.c (.int .i64 n.kind), .c (.int .i64 n.a), .c (.int .i64 n.b), .c n.shape.val, .c (.int .i64 n.lo), .c (.int .i64 n.hi), .c (.int .i64 n.size), .c n.data.val, .c n.bias.val, .c (.int .i64 at_), .c sv]] [] (baseA w) 0 rfl rfl (by show 1 ≤ _; decide) (abs_base w) ?_
    (repeat' ((conv => whnf) <;> first | (show Wp _ _ _ _ _ _ _; (refine Wp.go tabOk rfl ?_)) | (show @cmpK _ _ _; (first | refine cmp_yes (by omega) ?_ | refine cmp_no (by omega) ?_ | (refine cmp_both ?_ ?_ <;> intro _))) | (show wrapK _ _ _; (refine wrap_i64 (by omega) (by omega) ?_)) | (show leK _ _ _; (refine le_of (by first | exact Nat.le_refl _ | omega) ?_)) | (show roomK _ _ _; (refine room_of (by first | omega | (dsimp only; omega)) ?_)) | (show ltK _ _ _; (refine lt_of (by omega) ?_)) | (show _ ∧ _; (refine ⟨?_, ?_⟩)) | (show keepK _ _ _ _ _; (refine keep_of (by first | exact List.Sublist.refl _ | exact List.Sublist.cons _ (List.Sublist.refl _) | exact List.Sublist.cons _ (List.Sublist.cons _ (List.Sublist.refl _)) | exact List.Sublist.cons _ (List.Sublist.cons _ (List.Sublist.cons _ (List.Sublist.refl _)))) (by first | exact (fun _ _ h => h) | exact (fun _ _ h => h.1) | exact (fun _ _ h => h.1.1)) ?_)) | (show ownK _ _ _ _ _; (refine own_keep ?_))))
    refine Wp.freeze 1 (xs := ints [n.lo, n.hi]) (k := 1) (T := 3) (List.mem_cons_of_mem _ List.mem_cons_self) ?_
    intro l hl
    have hl2 : 2 ≤ l.cap := hl
    refine Wp.know (p := ∃ a, l.base = some a ∧ ∀ R w', ((baseA w).and (rowsA l.base 1 (ints [n.lo, n.hi]))).holds R w' → RowsI w' (some a) 1 (ints [n.lo, n.hi])) ?_ ?_
    · rintro ρ w' ⟨R, φ, hw⟩
      obtain ⟨b, off, hb, _⟩ := hw.asn.2.2.resolve_left (by simp [ints])
      exact ⟨_, hb, fun R' w'' h => by rw [← hb]; exact rowsA_in h.2⟩
    rintro ⟨aL, bL, hRL⟩
    refine Wp.rounds 4 ?_
    (repeat' ((conv => whnf) <;> first | (show sliceK _ _ _ _ _ _ _ _; (first | refine slice_nil bD (by simp [xD]) ?_ | refine slice_nil bB (by simp [xB]) ?_ | refine slice_some bD (by omega) ?_ | refine slice_some bB (by omega) ?_ | refine slice_some bL (by omega) ?_)) | (show roomK _ _ _; (refine room_of (by first | omega | decide | (show (n.data.xs.length + 1) * 8 ≤ 140737488355328; omega) | (show (n.bias.xs.length + 1) * 8 ≤ 140737488355328; omega)) ?_)) | (show roRowsK _ _ _ _ _; (first | refine roRows_in (ints_length _) (fun R w' h => hn.data.at_ bD R w' h.1) ints_row ?_ | refine roRows_in (ints_length _) (fun R w' h => hn.bias.at_ bB R w' h.1) ints_row ?_ | refine roRows_in (by simp [ints]) hRL ints_row ?_)) | (show callK _ 78 _ _ _ _ _; (refine call_pure (f := 78) Try.call78 (.int .i64 (foldI max (n.data.xs ++ [0]))) (fun ρ w' hw => max_own hw List.mem_cons_self (xs := n.data.xs ++ [0]) (by first | (simp only [ints, List.map_append]; rfl) | (simp only [ints, List.map_append, xD]; rfl)) (by first | (rw [List.length_append]; rfl) | (rw [List.length_append, xD]; rfl) | (rw [List.length_append, xB]; rfl)) fD (by simp; omega) (by simp)) ?_)) | (show callK _ 78 _ _ _ _ _; (refine call_pure (f := 78) Try.call78 (.int .i64 (foldI max (n.bias.xs ++ [0]))) (fun ρ w' hw => max_own hw List.mem_cons_self (xs := n.bias.xs ++ [0]) (by first | (simp only [ints, List.map_append]; rfl) | (simp only [ints, List.map_append, xB]; rfl)) (by first | (rw [List.length_append]; rfl) | (rw [List.length_append, xD]; rfl) | (rw [List.length_append, xB]; rfl)) fB (by simp; omega) (by simp)) ?_)) | (show callK _ 78 _ _ _ _ _; (refine call_pure (f := 78) Try.call78 (.int .i64 (foldI max ([n.lo, n.hi] ++ [0]))) (fun ρ w' hw => max_own hw List.mem_cons_self (xs := [n.lo, n.hi] ++ [0]) rfl rfl fL (by simp) (by simp)) ?_)) | (show callK _ 77 _ _ _ _ _; (refine call_pure (f := 77) Try.call77 (.int .i64 (foldI min (n.data.xs ++ [0]))) (fun ρ w' hw => min_own hw List.mem_cons_self (xs := n.data.xs ++ [0]) (by first | (simp only [ints, List.map_append]; rfl) | (simp only [ints, List.map_append, xD]; rfl)) (by first | (rw [List.length_append]; rfl) | (rw [List.length_append, xD]; rfl) | (rw [List.length_append, xB]; rfl)) fD (by simp; omega) (by simp)) ?_)) | (show callK _ 77 _ _ _ _ _; (refine call_pure (f := 77) Try.call77 (.int .i64 (foldI min (n.bias.xs ++ [0]))) (fun ρ w' hw => min_own hw List.mem_cons_self (xs := n.bias.xs ++ [0]) (by first | (simp only [ints, List.map_append]; rfl) | (simp only [ints, List.map_append, xB]; rfl)) (by first | (rw [List.length_append]; rfl) | (rw [List.length_append, xD]; rfl) | (rw [List.length_append, xB]; rfl)) fB (by simp; omega) (by simp)) ?_)) | (show callK _ 77 _ _ _ _ _; (refine call_pure (f := 77) Try.call77 (.int .i64 (foldI min ([n.lo, n.hi] ++ [0]))) (fun ρ w' hw => min_own hw List.mem_cons_self (xs := [n.lo, n.hi] ++ [0]) rfl rfl fL (by simp) (by simp)) ?_)) | (show Wp _ _ _ _ _ _ _; (refine Wp.go tabOk rfl ?_)) | (show @cmpK _ _ _; (first | refine cmp_yes (by omega) ?_ | refine cmp_no (by omega) ?_ | (refine cmp_both ?_ ?_ <;> intro _))) | (show wrapK _ _ _; (refine wrap_i64 (by omega) (by omega) ?_)) | (show leK _ _ _; (refine le_of (by first | exact Nat.le_refl _ | omega) ?_)) | (show roomK _ _ _; (refine room_of (by first | omega | (dsimp only; omega)) ?_)) | (show ltK _ _ _; (refine lt_of (by omega) ?_)) | (show _ ∧ _; (refine ⟨?_, ?_⟩)) | (show keepK _ _ _ _ _; (refine keep_of (by first | exact List.Sublist.refl _ | exact List.Sublist.cons _ (List.Sublist.refl _) | exact List.Sublist.cons _ (List.Sublist.cons _ (List.Sublist.refl _)) | exact List.Sublist.cons _ (List.Sublist.cons _ (List.Sublist.cons _ (List.Sublist.refl _)))) (by first | exact (fun _ _ h => h) | exact (fun _ _ h => h.1) | exact (fun _ _ h => h.1.1)) ?_)) | (show ownK _ _ _ _ _; (refine own_keep ?_))))
    all_goals (conv => whnf)
    all_goals (refine ends_bool (B := ⟨w, []⟩) (w := w) (S := (baseA w).and (rowsA l.base 1 (ints [n.lo, n.hi]))) (fun _ _ h => h.1) rfl ?_; unfold nearB; (first | rw [show nearL n.data.xs = true from by rw [xD]; rfl] | rw [hD]); (first | rw [show nearL n.bias.xs = true from by rw [xB]; rfl] | rw [hBi]); rw [hL])
    all_goals first | (simp only [Bool.and_eq_false_iff, decide_eq_false_iff_not]; omega) | ((repeat rw [decide_eq_true (by omega)]); rfl)
end Go.Proofs.Ytajbngkcgbehlaa
/- GK -/
namespace Go.Proofs.Ytajbngkcgbehlaa
open Go.SX Go.RowKit
/-- a graph -/
structure GraphV where
  base : Option Addr
  cap : Nat
  l : List NodeV
  out : Int
def nodeRows (l : List NodeV) : List (List Value) := l.map NodeV.cells
theorem nodeRows_length (l : List NodeV) : (nodeRows l).length = l.length := by simp [nodeRows]
theorem nodeRows_get {l : List NodeV} {k : Nat} (h : k < l.length) : (nodeRows l)[k]? = some l[k].cells := by simp [nodeRows, h]
def GraphV.val (g : GraphV) : Value := .agg #[.slice g.base g.l.length g.cap, .int .i64 g.out]
structure NodeV.small (n : NodeV) : Prop where
  data : n.data.xs.length ≤ 5000
  bias : n.bias.xs.length ≤ 5000
structure GraphV.ok (w : World) (g : GraphV) : Prop where
  rows : RowsI w g.base 9 (nodeRows g.l)
  each : ∀ n ∈ g.l, n.ok w
  small : ∀ n ∈ g.l, n.small
  few : g.l.length ≤ 1000000
  outFits : i64 g.out
theorem GraphV.ok.later {w w' : World} {R : Nat → Prop} {g : GraphV} (h : g.ok w) (hb : (baseA w).holds R w') : g.ok w' := ⟨rows_base hb h.rows, fun n hn => (h.each n hn).later hb, h.small, h.few, h.outFits⟩

def checkR : List NodeV → List (List Int) → Int × List (List Int)
  | [], sh => (0, sh)
  | n :: r, sh => if formB n sh.length = false then (3, []) else
    match shapeO n sh with
    | none => (4, [])
    | some s => if nearB n = false then (5, []) else checkR r (sh ++ [s])
def check (g : GraphV) : Int × List (List Int) := if g.l.length < 1 ∨ 24 < g.l.length ∨ g.out < 0 ∨ (g.l.length : Int) ≤ g.out then (3, []) else checkR g.l []

theorem checkR_form {n : NodeV} {r : List NodeV} {sh : List (List Int)} (h : formB n sh.length = false) : checkR (n :: r) sh = (3, []) := by simp only [checkR]; rw [if_pos h]
theorem checkR_shape {n : NodeV} {r : List NodeV} {sh : List (List Int)} (h : formB n sh.length = true) (hs : shapeO n sh = none) : checkR (n :: r) sh = (4, []) := by simp only [checkR]; rw [if_neg (by simp [h]), hs]
theorem checkR_near {n : NodeV} {r : List NodeV} {sh : List (List Int)} {s : List Int} (h : formB n sh.length = true) (hs : shapeO n sh = some s) (hn : nearB n = false) : checkR (n :: r) sh = (5, []) := by simp only [checkR]; rw [if_neg (by simp [h]), hs]; simp only; rw [if_pos hn]
theorem checkR_next {n : NodeV} {r : List NodeV} {sh : List (List Int)} {s : List Int} (h : formB n sh.length = true) (hs : shapeO n sh = some s) (hn : nearB n = true) : checkR (n :: r) sh = checkR r (sh ++ [s]) := by simp only [checkR]; rw [if_neg (by simp [h]), hs]; simp only; rw [if_neg (by simp [hn])]

/-- shapes as data -/
def shapesD (sv : ShapesV) : Asn where
  holds R w := (rowsA sv.base 1 (shRows sv.l)).holds R w ∧ ∀ u ∈ sv.l, (intsA u).holds R w
  stable := fun hR hw h => ⟨(rowsA _ _ _).stable hR hw h.1, fun u hu => (intsA u).stable hR hw (h.2 u hu)⟩
/-- numbers of several -/
def eachA (N : Nat) (l : List IntsV) : Asn where
  holds R w := ∀ u ∈ l, (newA N u).holds R w
  stable := fun hR hw h u hu => (newA N u).stable hR hw (h u hu)
theorem eachA_nil (N : Nat) (R : Nat → Prop) (w : World) : (eachA N []).holds R w := fun u hu => by simp at hu
theorem eachA_snoc {N : Nat} {l : List IntsV} {u : IntsV} {R : Nat → Prop} {w : World} (h : (eachA N l).holds R w) (hu : (newA N u).holds R w) : (eachA N (l ++ [u])).holds R w := by
  intro v hv
  rcases List.mem_append.1 hv with hv | hv
  · exact h v hv
  · simp at hv; subst hv; exact hu
def CheckPost (w : World) (r : Int × List (List Int)) (e : Ending) (w' : World) : Prop :=
  ∃ (v : Value), e = .returned (.tuple #[v, .int .i64 r.1]) ∧ Ext w w' ∧ (r.1 ≠ 0 → v = .slice none 0 0) ∧
    (r.1 = 0 → ∃ sv : ShapesV, v = sv.val ∧ sv.l.map (·.xs) = r.2 ∧ (∀ u ∈ sv.l, u.sane) ∧ (shapesD sv).holds (fun b => w.heap.size ≤ b ∧ b < w'.heap.size) w' ∧ sv.l.length ≤ sv.cap)
theorem ends_bad {B : Base} {H : Heap} {S : Asn} {nx : Nat} {w : World} {r : Int × List (List Int)} {k : Int} (hb : ∀ R w', S.holds R w' → (baseA B.w0).holds R w') (hw0 : B.w0 = w) (hr : r = (k, [])) (hk : k ≠ 0) : finK B (.tup [.c (.slice none 0 0), .c (.int .i64 k)]) H S nx (CheckPost w r) := by
  subst hw0 hr
  exact fin_of fun ρ w' hw => ⟨_, rfl, ext_of_abs hw hb, fun _ => rfl, fun h => absurd h hk⟩
theorem ends_good {B : Base} {H : Heap} {S : Asn} {nx i m : Nat} {w : World} {r : Int × List (List Int)} {us : List IntsV} {T : TypeId} (hb : ∀ R w', S.holds R w' → (baseA B.w0).holds R w') (hs : ∀ R w', S.holds R w' → (eachA B.w0.heap.size us).holds R w') (hsane : ∀ u ∈ us, u.sane) (hw0 : B.w0 = w) (he : (i, Ent.rows (shRows us) 1 T) ∈ H) (hm : m = us.length) (hr : r = (0, us.map (·.xs))) :
    finK B (.tup [.os i m, .c (.int .i64 0)]) H S nx (CheckPost w r) := by
  subst hw0 hr hm
  refine fin_of fun ρ w' hw => ⟨_, rfl, ext_of_abs hw hb, fun h => absurd rfl h, fun _ => ?_⟩
  have hn := new_of_abs hw hb he
  obtain ⟨base, cap, e1, h1⟩ := newRows_data hn
  obtain ⟨l', e2, F, _, _, hcap, _⟩ := hn
  have e3 : cap = l'.cap := by
    have := e1.symm.trans e2
    simp only [Value.slice.injEq] at this
    exact this.2.2
  refine ⟨⟨base, cap, us⟩, ?_, rfl, hsane, ⟨h1, fun u hu => past_new hw fun R w'' h => hs R w'' h u hu⟩, ?_⟩
  · rw [shRows_length] at e1
    exact e1
  · rw [shRows_length] at hcap
    show us.length ≤ cap
    omega

theorem call_clone {cx : Cx} {f : FuncId} {args : List SV} {H : Heap} {S : Asn} {nx : Nat} {K : SV → Heap → Asn → Nat → Prop} (xs : List Int) (hf : ∀ ar w, (callFunc f ar).run cx.P w = .ok (.enter f ar) w) (hfit : ∀ x ∈ xs, -9223372036854775808 ≤ x ∧ x ≤ 9223372036854775807) (hl : xs.length ≤ 1000000)
    (hc : ∀ ρ w', Abs cx.B ρ nx H S w' → Calls cx.P f (SV.rfs ρ args).toArray w' (fun e w'' => ∃ v, e = .returned v ∧ Ext w' w'' ∧ NewRows w' w'' v 1 3 (ints xs)))
    (h : ∀ u : IntsV, u.xs = xs → u.sane → K (.c u.val) H (S.and (newA cx.B.w0.heap.size u)) nx) : callK cx f args H S nx K := by
  refine call_past hf IntsV.val intsA (fun u => u.xs = xs ∧ u.sane) (fun ρ w' hw => (hc ρ w' hw).mono ?_) (fun u hu => h u hu.1 hu.2)
  rintro e w'' ⟨v, rfl, he, hn⟩
  obtain ⟨u, rfl, h1, h2, h3⟩ := newInts hn hfit hl
  exact ⟨u, ⟨h1, h2⟩, rfl, he, h3⟩
theorem shRows_snoc (l : List IntsV) (u : IntsV) : shRows (l ++ [u]) = shRows l ++ [[u.val]] := by simp [shRows]
theorem shapes_abs {B : Base} {ρ : Nat → SX.Loc} {nx : Nat} {H : Heap} {S : Asn} {w : World} {i N : Nat} {T : TypeId} {us : List IntsV} (hw : Abs B ρ nx H S w) (he : (i, Ent.rows (shRows us) 1 T) ∈ H) (hS : ∀ R w', S.holds R w' → (eachA N us).holds R w') (hus : ∀ u ∈ us, u.sane ∧ 0 < entries u.xs) (hl : us.length ≤ 24) :
    (⟨(ρ i).base, (ρ i).cap, us⟩ : ShapesV).ok w :=
  ⟨rows_of_abs hw he, fun u hu => holds_of_abs hw fun R h => intsA_ok (hus u hu).1 ((intsA u).mono (hS R w h u hu) (fun b hb => hb.1)), hl⟩
section
variable {w w' : World} {R : Nat → Prop} {n : NodeV} {us : List IntsV} {u : IntsV} {S : Asn} {N : Nat}
theorem u_sane1 (hn : n.ok w) (hus : ∀ u ∈ us, u.sane ∧ 0 < entries u.xs) (hu : u = n.shape ∨ u ∈ us) : u.sane := hu.elim (fun h => h ▸ hn.shape.sane) (fun h => (hus u h).1)
theorem u_ok1 (hn : n.ok w) (hus : ∀ u ∈ us, u.sane ∧ 0 < entries u.xs) (hu : u = n.shape ∨ u ∈ us) (h : ((baseA w).and (eachA N us)).holds R w') : u.ok w' :=
  hu.elim (fun e => e ▸ hn.shape.later h.1) (fun e => intsA_ok (hus u e).1 ((intsA u).mono (h.2 u e) (fun b hb => hb.1)))
theorem u_ok2 (hu : u.sane) (h : (S.and (newA N u)).holds R w') : u.ok w' := intsA_ok hu ((intsA u).mono h.2 (fun b hb => hb.1))
end
theorem each_snoc {us : List IntsV} {v : IntsV} (hus : ∀ u ∈ us, u.sane ∧ 0 < entries u.xs) (h1 : v.sane) (h2 : 0 < entries v.xs) : ∀ u ∈ us ++ [v], u.sane ∧ 0 < entries u.xs := by
  intro u hu
  rcases List.mem_append.1 hu with hu | hu
  · exact hus u hu
  · simp at hu; subst hu; exact ⟨h1, h2⟩
theorem rows_snoc (us : List IntsV) (v : IntsV) {i : Nat} {T : TypeId} {H : Heap} : (i, Ent.rows (shRows (us ++ [v])) 1 T) ∈ (i, Ent.rows (List.take us.length (shRows us) ++ [[v.val]]) 1 T) :: H := by
  rw [shRows_snoc, List.take_of_length_le (by rw [shRows_length]; exact Nat.le_refl _)]
  exact List.mem_cons_self
set_option maxRecDepth 20000 in
set_option maxHeartbeats 8000000 in
theorem check_any (w : World) (g : GraphV) (hg : g.ok w) : Calls Try.prog 17 #[g.val] w (CheckPost w (check g)) := by
  by_cases hc : g.l.length < 1 ∨ 24 < g.l.length ∨ g.out < 0 ∨ (g.l.length : Int) ≤ g.out
  · have hs : check g = (3, []) := by unfold check; rw [if_pos hc]
    rw [hs]
    refine calls_of tab tabOk Try.func17 rfl rfl rfl [] (fun _ => ⟨none, 0⟩) [.agg [.c (.slice g.base g.l.length g.cap), .c (.int .i64 g.out)]] [] (baseA w) 0 rfl rfl (by show 1 ≤ _; decide) (abs_base w) ?_
    (repeat' ((conv => whnf) <;> first | (show Wp _ _ _ _ _ _ _; (refine Wp.go tabOk rfl ?_)) | (show @cmpK _ _ _; (first | refine cmp_yes (by omega) ?_ | refine cmp_no (by omega) ?_ | (refine cmp_both ?_ ?_ <;> intro _))) | (show wrapK _ _ _; (refine wrap_i64 (by omega) (by omega) ?_)) | (show leK _ _ _; (refine le_of (by first | exact Nat.le_refl _ | omega) ?_)) | (show roomK _ _ _; (refine room_of (by first | omega | (dsimp only; omega)) ?_)) | (show ltK _ _ _; (refine lt_of (by omega) ?_)) | (show _ ∧ _; (refine ⟨?_, ?_⟩)) | (show keepK _ _ _ _ _; (refine keep_of (by first | exact List.Sublist.refl _ | exact List.Sublist.cons _ (List.Sublist.refl _) | exact List.Sublist.cons _ (List.Sublist.cons _ (List.Sublist.refl _)) | exact List.Sublist.cons _ (List.Sublist.cons _ (List.Sublist.cons _ (List.Sublist.refl _)))) (by first | exact (fun _ _ h => h) | exact (fun _ _ h => h.1) | exact (fun _ _ h => h.1.1)) ?_)) | (show ownK _ _ _ _ _; (refine own_keep ?_))))
    all_goals exact ends_bad (fun _ _ h => h) rfl rfl (by decide)
  · have hs : check g = checkR g.l [] := by unfold check; rw [if_neg hc]
    rw [hs]
    obtain ⟨a, ha⟩ : ∃ a, g.base = some a := base_some (j := 0) hg.rows (by rw [nodeRows_length]; omega)
    refine calls_of tab tabOk Try.func17 rfl rfl rfl [] (fun _ => ⟨none, 0⟩) [.agg [.c (.slice g.base g.l.length g.cap), .c (.int .i64 g.out)]] [] (baseA w) 0 rfl rfl (by show 1 ≤ _; decide) (abs_base w) ?_
    (repeat' ((conv => whnf) <;> first | (show Wp _ _ _ _ _ _ _; (refine Wp.go tabOk rfl ?_)) | (show @cmpK _ _ _; (first | refine cmp_yes (by omega) ?_ | refine cmp_no (by omega) ?_ | (refine cmp_both ?_ ?_ <;> intro _))) | (show wrapK _ _ _; (refine wrap_i64 (by omega) (by omega) ?_)) | (show leK _ _ _; (refine le_of (by first | exact Nat.le_refl _ | omega) ?_)) | (show roomK _ _ _; (refine room_of (by first | omega | (dsimp only; omega)) ?_)) | (show ltK _ _ _; (refine lt_of (by omega) ?_)) | (show _ ∧ _; (refine ⟨?_, ?_⟩)) | (show keepK _ _ _ _ _; (refine keep_of (by first | exact List.Sublist.refl _ | exact List.Sublist.cons _ (List.Sublist.refl _) | exact List.Sublist.cons _ (List.Sublist.cons _ (List.Sublist.refl _)) | exact List.Sublist.cons _ (List.Sublist.cons _ (List.Sublist.cons _ (List.Sublist.refl _)))) (by first | exact (fun _ _ h => h) | exact (fun _ _ h => h.1) | exact (fun _ _ h => h.1.1)) ?_)) | (show ownK _ _ _ _ _; (refine own_keep ?_))))
    refine Wp.loop (σ := Nat × List IntsV) 2 (fun ⟨k, us⟩ => [(34, .c (.slice g.base g.l.length g.cap)), (35, .c (.int .i64 g.l.length)), (36, .c (.int .i64 k)), (4, .os 1 k)]) (fun ⟨_, us⟩ => [(1, .rows (shRows us) 1 32)]) (fun ⟨_, us⟩ => (baseA w).and (eachA w.heap.size us))
      (fun ⟨k, us⟩ => k ≤ g.l.length ∧ us.length = k ∧ (∀ u ∈ us, u.sane ∧ 0 < entries u.xs) ∧ checkR g.l [] = checkR (g.l.drop k) (us.map (·.xs))) (fun s => g.l.length - s.1) (0, []) [(1, none)] (by decide) (fun s => ⟨rfl, rfl⟩) ⟨by simp, rfl, by simp, rfl⟩ ⟨rfl, ⟨rfl, rfl, rfl, rfl, trivial⟩, ⟨rfl, trivial⟩, fun R w' h => ⟨h, eachA_nil _ _ _⟩⟩ ?_
    rintro ⟨k, us⟩ ⟨hk, hul, hus, he⟩
    by_cases hlt : k < g.l.length
    · rw [drop_at hlt] at he
      have hn := hg.each _ (List.getElem_mem hlt)
      have hsm := hg.small _ (List.getElem_mem hlt)
      generalize hnk : g.l[k] = n at *
      have hrow : (nodeRows g.l)[k]? = some n.cells := by rw [nodeRows_get hlt, hnk]
      subst hul
      have hgs : ∀ s ∈ us.map (·.xs), 0 < entries s := fun s hs => by obtain ⟨u, hu, rfl⟩ := List.mem_map.1 hs; exact (hus u hu).2
      have hlm : (us.map (·.xs)).length = us.length := List.length_map _
      (repeat' ((conv => whnf) <;> first | (show idxK _ _ _ _ _; (refine idx_of a us.length ha rfl hlt ?_)) | (show roAggK _ _ _ _; (refine roAgg_row (fun R w' h => by rw [← ha]; exact rows_base h.1 hg.rows) _ hrow rfl ?_)) | (show callK _ 42 _ _ _ _ _; ((refine call_bool (f := 42) Try.call42 _ (fun ρ w' hw => form_any w' n (holds_of_abs hw fun R h => (by first | exact hn.later h.1 | exact hn.later h.1.1 | exact hn.later h.1.1.1)) us.length ((SV.os 1 us.length).rf ρ)) ?_ ?_ <;> intro hform))) | (show callK _ 43 _ _ _ _ _; (refine call_shape (f := 43) (n := n) (l := us) (shapeO n (us.map fun x : IntsV => x.xs)) Try.call43 rfl (fun ρ w' hw => shape_any w' n (holds_of_abs hw fun R h => (by first | exact hn.later h.1 | exact hn.later h.1.1 | exact hn.later h.1.1.1)) us.length ⟨(ρ 1).base, (ρ 1).cap, us⟩ (shapes_abs hw (List.mem_cons_of_mem _ (List.mem_cons_of_mem _ List.mem_cons_self)) (fun R w' h => h.2) hus (by omega)) (formed_of hform) (fun s hs => (hus s hs).2)) (fun hr v => ?_) (fun u hr hu => ?_) (fun u hr hu => ?_))) | (show callK _ 44 _ _ _ _ _; ((refine call_bool (f := 44) Try.call44 _ (fun ρ w' hw => near_any w' n (holds_of_abs hw fun R h => (by first | exact hn.later h.1 | exact hn.later h.1.1 | exact hn.later h.1.1.1)) hsm.data hsm.bias us.length ((SV.os 1 us.length).rf ρ)) ?_ ?_ <;> intro hnear))) | (show callK _ 45 _ _ _ _ _; (refine call_clone (f := 45) u.xs Try.call45 (by first | exact (u_sane1 hn hus hu).fits | exact hu.fits) (by first | exact (u_sane1 hn hus hu).few | exact hu.few) (fun ρ w' hw => clone_any w' u (holds_of_abs hw fun R h => by first | exact u_ok1 hn hus hu h | exact u_ok2 hu h) (entries_dims (shape_good (n := n) (sh := us.map fun x : IntsV => x.xs) (by rw [List.length_map]; exact formed_of hform) hgs hr rfl)).1) (fun v hv hvs => ?_))) | (show leK _ _ _; (refine le_of (by rw [shRows_length]; exact Nat.le_refl _) ?_)) | (show roomK _ _ _; (refine room_of (by show (us.length + 1) * 24 ≤ 140737488355328; omega) ?_)) | (show Wp _ _ _ _ _ _ _; (refine Wp.go tabOk rfl ?_)) | (show @cmpK _ _ _; (first | refine cmp_yes (by omega) ?_ | refine cmp_no (by omega) ?_ | (refine cmp_both ?_ ?_ <;> intro _))) | (show wrapK _ _ _; (refine wrap_i64 (by omega) (by omega) ?_)) | (show leK _ _ _; (refine le_of (by first | exact Nat.le_refl _ | omega) ?_)) | (show roomK _ _ _; (refine room_of (by first | omega | (dsimp only; omega)) ?_)) | (show ltK _ _ _; (refine lt_of (by omega) ?_)) | (show _ ∧ _; (refine ⟨?_, ?_⟩)) | (show keepK _ _ _ _ _; (refine keep_of (by first | exact List.Sublist.refl _ | exact List.Sublist.cons _ (List.Sublist.refl _) | exact List.Sublist.cons _ (List.Sublist.cons _ (List.Sublist.refl _)) | exact List.Sublist.cons _ (List.Sublist.cons _ (List.Sublist.cons _ (List.Sublist.refl _)))) (by first | exact (fun _ _ h => h) | exact (fun _ _ h => h.1) | exact (fun _ _ h => h.1.1)) ?_)) | (show ownK _ _ _ _ _; (refine own_keep ?_))))
      all_goals (conv => whnf)
      · exact ends_bad (B := ⟨w, []⟩) (fun _ _ h => h.1) rfl (he.trans (checkR_shape (by rw [hlm]; exact hform) hr)) (by decide)
      · exact ⟨(us.length + 1, us ++ [v]), [(1, some 5)], ⟨hlt, by simp, each_snoc hus hvs (hv ▸ shape_good (by rw [hlm]; exact formed_of hform) hgs hr rfl), he.trans ((checkR_next (by rw [hlm]; exact hform) hr hnear).trans (by rw [List.map_append, ← hv]; rfl))⟩, by simp only; omega, rfl, ⟨rfl, rfl, rfl, rfl, trivial⟩, ⟨rows_snoc us v, trivial⟩, fun R w' h => ⟨h.1.1, eachA_snoc h.1.2 h.2⟩⟩
      · exact ends_bad (B := ⟨w, []⟩) (fun _ _ h => h.1) rfl (he.trans (checkR_near (by rw [hlm]; exact hform) hr hnear)) (by decide)
      · exact ⟨(us.length + 1, us ++ [v]), [(1, some 5)], ⟨hlt, by simp, each_snoc hus hvs (hv ▸ shape_good (by rw [hlm]; exact formed_of hform) hgs hr rfl), he.trans ((checkR_next (by rw [hlm]; exact hform) hr hnear).trans (by rw [List.map_append, ← hv]; rfl))⟩, by simp only; omega, rfl, ⟨rfl, rfl, rfl, rfl, trivial⟩, ⟨rows_snoc us v, trivial⟩, fun R w' h => ⟨h.1.1.1, eachA_snoc h.1.1.2 h.2⟩⟩
      · exact ends_bad (B := ⟨w, []⟩) (fun _ _ h => h.1.1) rfl (he.trans (checkR_near (by rw [hlm]; exact hform) hr hnear)) (by decide)
      · exact ends_bad (B := ⟨w, []⟩) (fun _ _ h => h.1) rfl (he.trans (checkR_form (by rw [hlm]; exact hform))) (by decide)
    · rw [List.drop_of_length_le (by omega)] at he
      subst hul
      (repeat' ((conv => whnf) <;> first | (show Wp _ _ _ _ _ _ _; (refine Wp.go tabOk rfl ?_)) | (show @cmpK _ _ _; (first | refine cmp_yes (by omega) ?_ | refine cmp_no (by omega) ?_ | (refine cmp_both ?_ ?_ <;> intro _))) | (show wrapK _ _ _; (refine wrap_i64 (by omega) (by omega) ?_)) | (show leK _ _ _; (refine le_of (by first | exact Nat.le_refl _ | omega) ?_)) | (show roomK _ _ _; (refine room_of (by first | omega | (dsimp only; omega)) ?_)) | (show ltK _ _ _; (refine lt_of (by omega) ?_)) | (show _ ∧ _; (refine ⟨?_, ?_⟩)) | (show keepK _ _ _ _ _; (refine keep_of (by first | exact List.Sublist.refl _ | exact List.Sublist.cons _ (List.Sublist.refl _) | exact List.Sublist.cons _ (List.Sublist.cons _ (List.Sublist.refl _)) | exact List.Sublist.cons _ (List.Sublist.cons _ (List.Sublist.cons _ (List.Sublist.refl _)))) (by first | exact (fun _ _ h => h) | exact (fun _ _ h => h.1) | exact (fun _ _ h => h.1.1)) ?_)) | (show ownK _ _ _ _ _; (refine own_keep ?_))))
      conv => whnf
      exact ends_good (B := ⟨w, []⟩) (fun _ _ h => h.1) (fun _ _ h => h.2) (fun u hu => (hus u hu).1) rfl List.mem_cons_self rfl he
end Go.Proofs.Ytajbngkcgbehlaa
/- GU -/
namespace Go.Proofs.Ytajbngkcgbehlaa
open Go.SX Go.RowKit
structure BytesV where
  base : Option Addr
  cap : Nat
  bs : List Nat
def BytesV.val (v : BytesV) : Value := .slice v.base v.bs.length v.cap
def bytesR (l : List Nat) : List (List Value) := l.map fun (x : Nat) => [Value.int .u8 (x : Int)]
theorem bytesR_length (l : List Nat) : (bytesR l).length = l.length := by simp [bytesR]
theorem bytesR_get {l : List Nat} {k : Nat} (h : k < l.length) : (bytesR l)[k]? = some [.int .u8 ((l[k] : Nat) : Int)] := by simp [bytesR, h]
def bytesD (v : BytesV) : Asn := rowsA v.base 1 (bytesR v.bs)
def trueA : Asn := ⟨fun _ _ => True, fun _ _ h => h⟩
def tcells (t : BytesV) (k : Nat) : List Value := [t.val, .int .i64 k]
structure TapeOk (w : World) (b : Nat) (t : BytesV) (k : Nat) : Prop where
  small : t.bs.length ≤ 1000000
  bytes : ∀ x ∈ t.bs, x ≤ 255
  data : (bytesD t).holds (oth w b) w
  at_ : k ≤ t.bs.length
  box : w.heap[b]? = some (.cells (tcells t k).toArray 39 (0, 0))
theorem ends_box {α : Type} {w : World} {b : Nat} {T : TypeId} {val : α → Value} {cells : α → List Value} {D : α → Asn} {p : α → Prop} {v : SV} {H : Heap} {S : Asn} {nx : Nat} (x : α) (hp : p x) (hv : ∀ ρ, v.rf ρ = val x) (he : (0, Ent.box (cs (cells x)) T) ∈ H)
    (hS : ∀ R w', S.holds R w' → (restA w b).holds R w') (hD : ∀ R w', S.holds R w' → ((D x).past w.heap.size).holds R w') : finK ⟨w, [(0, boxL b)]⟩ v H S nx (BoxPost w b T val cells D p) :=
  fin_of fun ρ w' hw => ⟨x, hp, by rw [hv], (box_end hw hS he).1, (box_end hw hS he).2, box_new hw hD⟩
abbrev NumPost (w : World) (b : Nat) (t : BytesV) (p : Int → Prop) : Ending → World → Prop :=
  BoxPost w b 39 (fun x : Int × Nat => .int .i64 x.1) (fun x => tcells t x.2) (fun _ => trueA) (fun x => p x.1 ∧ x.2 ≤ t.bs.length)
set_option maxRecDepth 20000 in
theorem next_any (w : World) (b : Nat) (t : BytesV) (k : Nat) (h : TapeOk w b t k) (n : Int) (hn : i64 n) :
    Calls Try.prog 50 #[.pointer (some ⟨b, 0, none⟩), .int .i64 n] w (NumPost w b t fun r => 0 ≤ r ∧ (2 ≤ n → r < n) ∧ (n < 2 → r = 0)) := by
  obtain ⟨hs, hby, hd, hk, hb⟩ := h
  by_cases hc : n < 2 ∨ t.bs.length ≤ k
  · refine calls_of tab tabOk Try.func50 rfl rfl rfl [(0, boxL b)] (fun _ => boxL b) [.lp 0 0 0 0, .c (.int .i64 n)] _ (restA w b) 1 (by simp [SV.rfs, SV.rf, boxL, add_none]) rfl (by show 2 ≤ _; decide) (abs_box hb) ?_
    (repeat' ((conv => whnf) <;> first | (show drawK _ 1 _ _ _ _ _ _; (refine draw_quiet tabOk mixed (by kernel_rfl) ?_)) | (show drawK _ 4 _ _ _ _ _ _; (refine draw_quiet tabOk mixed (by kernel_rfl) ?_)) | (show Wp _ _ _ _ _ _ _; (refine Wp.go tabOk rfl ?_)) | (show @cmpK _ _ _; (first | refine cmp_yes (by omega) ?_ | refine cmp_no (by omega) ?_ | (refine cmp_both ?_ ?_ <;> intro _))) | (show wrapK _ _ _; (refine wrap_i64 (by omega) (by omega) ?_)) | (show leK _ _ _; (refine le_of (by first | exact Nat.le_refl _ | omega) ?_)) | (show roomK _ _ _; (refine room_of (by first | omega | (dsimp only; omega)) ?_)) | (show ltK _ _ _; (refine lt_of (by omega) ?_)) | (show _ ∧ _; (refine ⟨?_, ?_⟩)) | (show keepK _ _ _ _ _; (refine keep_of (by first | exact List.Sublist.refl _ | exact List.Sublist.cons _ (List.Sublist.refl _) | exact List.Sublist.cons _ (List.Sublist.cons _ (List.Sublist.refl _)) | exact List.Sublist.cons _ (List.Sublist.cons _ (List.Sublist.cons _ (List.Sublist.refl _)))) (by first | exact (fun _ _ h => h) | exact (fun _ _ h => h.1) | exact (fun _ _ h => h.1.1)) ?_)) | (show ownK _ _ _ _ _; (refine own_keep ?_))))
    all_goals (conv => whnf)
    all_goals exact ends_box (0, k) ⟨⟨Int.le_refl 0, fun h => (by show (0 : Int) < n; omega), fun _ => rfl⟩, hk⟩ (fun _ => rfl) List.mem_cons_self (fun _ _ h => h) (fun _ _ _ => trivial)
  · have hlt : k < t.bs.length := by omega
    obtain ⟨a, ha⟩ : ∃ a, t.base = some a := by
      rcases hd.2 with h | ⟨x, off, h, _⟩
      · have := congrArg List.length h; rw [bytesR_length, List.length_nil] at this; omega
      · exact ⟨_, h⟩
    have hx := hby _ (List.getElem_mem hlt)
    have hm : 0 ≤ ((t.bs[k] : Nat) : Int) % n ∧ ((t.bs[k] : Nat) : Int) % n < n := ⟨Int.emod_nonneg _ (by omega), Int.emod_lt_of_pos _ (by omega)⟩
    refine calls_of tab tabOk Try.func50 rfl rfl rfl [(0, boxL b)] (fun _ => boxL b) [.lp 0 0 0 0, .c (.int .i64 n)] _ (restA w b) 1 (by simp [SV.rfs, SV.rf, boxL, add_none]) rfl (by show 2 ≤ _; decide) (abs_box hb) ?_
    (repeat' ((conv => whnf) <;> first | (show idxK _ _ _ _ _; (refine idx_of a k ha (by omega) hlt ?_)) | (show roK _ _ _; (refine ro_row0 (fun R w' h => by rw [← ha]; exact rowsA_in (rest_holds hd h)) _ _ (bytesR_get hlt) rfl ?_)) | (show remK _ _ _; (refine rem_pos (by omega) (by omega) ?_)) | (show drawK _ 1 _ _ _ _ _ _; (refine draw_quiet tabOk mixed (by kernel_rfl) ?_)) | (show drawK _ 4 _ _ _ _ _ _; (refine draw_quiet tabOk mixed (by kernel_rfl) ?_)) | (show Wp _ _ _ _ _ _ _; (refine Wp.go tabOk rfl ?_)) | (show @cmpK _ _ _; (first | refine cmp_yes (by omega) ?_ | refine cmp_no (by omega) ?_ | (refine cmp_both ?_ ?_ <;> intro _))) | (show wrapK _ _ _; (refine wrap_i64 (by omega) (by omega) ?_)) | (show leK _ _ _; (refine le_of (by first | exact Nat.le_refl _ | omega) ?_)) | (show roomK _ _ _; (refine room_of (by first | omega | (dsimp only; omega)) ?_)) | (show ltK _ _ _; (refine lt_of (by omega) ?_)) | (show _ ∧ _; (refine ⟨?_, ?_⟩)) | (show keepK _ _ _ _ _; (refine keep_of (by first | exact List.Sublist.refl _ | exact List.Sublist.cons _ (List.Sublist.refl _) | exact List.Sublist.cons _ (List.Sublist.cons _ (List.Sublist.refl _)) | exact List.Sublist.cons _ (List.Sublist.cons _ (List.Sublist.cons _ (List.Sublist.refl _)))) (by first | exact (fun _ _ h => h) | exact (fun _ _ h => h.1) | exact (fun _ _ h => h.1.1)) ?_)) | (show ownK _ _ _ _ _; (refine own_keep ?_))))
    conv => whnf
    exact ends_box (_, k + 1) ⟨⟨hm.1, fun _ => hm.2, fun h => by omega⟩, hlt⟩ (fun _ => rfl) List.mem_cons_self (fun _ _ h => h) (fun _ _ _ => trivial)

abbrev TPost {α : Type} (w : World) (b : Nat) (t : BytesV) (val : α → Value) (D : α → Asn) (p : α → Prop) : Ending → World → Prop :=
  BoxPost w b 39 (fun x : α × Nat => val x.1) (fun x => tcells t x.2) (fun x => D x.1) (fun x => p x.1 ∧ x.2 ≤ t.bs.length)
theorem callK_weak {cx : Cx} {f : FuncId} {args : List SV} {H : Heap} {S : Asn} {nx : Nat} {K : SV → Heap → Asn → Nat → Prop}
    (h : callK cx f args H S nx (fun v H' S' nx' => ∃ S2 : Asn, (∀ R w, S'.holds R w → S2.holds R w) ∧ K v H' S2 nx')) : callK cx f args H S nx K := by
  rw [callK_def] at h ⊢
  refine ⟨h.1, fun ρ w hw => (h.2 ρ w hw).mono ?_⟩
  rintro e w' ⟨v, ρ', H', S', nx', h1, h2, h3, h4, h5, S2, h6, h7⟩
  exact ⟨v, ρ', H', S2, nx', h1, h2, h3, h4, h5.sub (List.Sublist.refl _) h6, h7⟩
/-- a call with the tape as its first argument -/
theorem call_t {cx : Cx} {f : FuncId} {H : Heap} {S : Asn} {nx i : Nat} {K : SV → Heap → Asn → Nat → Prop} {α : Type} (rest : List Value) (t : BytesV) (k : Nat) (val : α → Value) (D : α → Asn) (p : α → Prop) (hi : (i, Ent.box (cs (tcells t k)) 39) ∈ H) (hf : ∀ ar w, (callFunc f ar).run cx.P w = .ok (.enter f ar) w)
    (hsm : t.bs.length ≤ 1000000) (hby : ∀ x ∈ t.bs, x ≤ 255) (hk : k ≤ t.bs.length) (hS : ∀ R w', S.holds R w' → (bytesD t).holds R w')
    (hc : ∀ R w' b, TapeOk w' b t k → S.holds R w' → (∀ x, R x → oth w' b x) → Calls cx.P f (Value.pointer (some ⟨b, 0, none⟩) :: rest).toArray w' (TPost w' b t val D p))
    (h : ∀ x k', p x → k' ≤ t.bs.length → K (.c (val x)) (setH i (.box (cs (tcells t k')) 39) H) (S.and ((D x).past cx.B.w0.heap.size)) nx) : callK cx f (.lp i 0 0 0 :: cs rest) H S nx K := by
  refine call_box hi hf (fun x : α × Nat => val x.1) (fun x => tcells t x.2) (fun x => D x.1) (fun x => p x.1 ∧ x.2 ≤ t.bs.length) ?_ (fun x hx => h x.1 x.2 hx.1 hx.2)
  intro R ρ w' b hw hR hRo hρ hb
  rw [rfs_cs] at hb
  have := hc R w' b ⟨hsm, hby, (bytesD t).mono (hS R w' hR) hRo, hk, hb⟩ hR hRo
  have e : SV.rfs ρ (.lp i 0 0 0 :: cs rest) = Value.pointer (some ⟨b, 0, none⟩) :: rest := by
    simp only [SV.rfs, SV.rf, rfs_cs, hρ, Option.map_some, add_none]
  rw [e]
  exact this
theorem call_num {cx : Cx} {f : FuncId} {H : Heap} {S : Asn} {nx i : Nat} {K : SV → Heap → Asn → Nat → Prop} (rest : List Value) (t : BytesV) (k : Nat) (p : Int → Prop) (hi : (i, Ent.box (cs (tcells t k)) 39) ∈ H) (hf : ∀ ar w, (callFunc f ar).run cx.P w = .ok (.enter f ar) w)
    (hsm : t.bs.length ≤ 1000000) (hby : ∀ x ∈ t.bs, x ≤ 255) (hk : k ≤ t.bs.length) (hS : ∀ R w', S.holds R w' → (bytesD t).holds R w')
    (hc : ∀ w' b, TapeOk w' b t k → Calls cx.P f (Value.pointer (some ⟨b, 0, none⟩) :: rest).toArray w' (NumPost w' b t p))
    (h : ∀ r k', p r → k' ≤ t.bs.length → K (.c (.int .i64 r)) (setH i (.box (cs (tcells t k')) 39) H) S nx) : callK cx f (.lp i 0 0 0 :: cs rest) H S nx K :=
  callK_weak (call_t rest t k (fun r : Int => .int .i64 r) (fun _ => trueA) p hi hf hsm hby hk hS (fun _ w' b ht _ _ => hc w' b ht) (fun r k' hp hk' => ⟨S, fun _ _ h => h.1, h r k' hp hk'⟩))
theorem small_any (w : World) (b : Nat) (t : BytesV) (k : Nat) (h : TapeOk w b t k) :
    Calls Try.prog 94 #[.pointer (some ⟨b, 0, none⟩)] w (NumPost w b t fun r => -4 ≤ r ∧ r ≤ 4) := by
  obtain ⟨hs, hby, hd, hk, hb⟩ := h
  refine calls_of tab tabOk Try.func94 rfl rfl rfl [(0, boxL b)] (fun _ => boxL b) [.lp 0 0 0 0] _ (restA w b) 1 (by simp [SV.rfs, SV.rf, boxL, add_none]) rfl (by show 1 ≤ _; decide) (abs_box hb) ?_
  (repeat' ((conv => whnf) <;> first | (show callK _ 50 _ _ _ _ _; (refine call_num (f := 50) [.int .i64 9] t k _ List.mem_cons_self Try.call50 hs hby hk (fun R w' h => rest_holds hd h) (fun w' b' ht => next_any w' b' t k ht 9 ⟨by decide, by decide⟩) (fun r k' hr hk' => ?_))) | (show Wp _ _ _ _ _ _ _; (refine Wp.go tabOk rfl ?_)) | (show @cmpK _ _ _; (first | refine cmp_yes (by omega) ?_ | refine cmp_no (by omega) ?_ | (refine cmp_both ?_ ?_ <;> intro _))) | (show wrapK _ _ _; (refine wrap_i64 (by omega) (by omega) ?_)) | (show leK _ _ _; (refine le_of (by first | exact Nat.le_refl _ | omega) ?_)) | (show roomK _ _ _; (refine room_of (by first | omega | (dsimp only; omega)) ?_)) | (show ltK _ _ _; (refine lt_of (by omega) ?_)) | (show _ ∧ _; (refine ⟨?_, ?_⟩)) | (show keepK _ _ _ _ _; (refine keep_of (by first | exact List.Sublist.refl _ | exact List.Sublist.cons _ (List.Sublist.refl _) | exact List.Sublist.cons _ (List.Sublist.cons _ (List.Sublist.refl _)) | exact List.Sublist.cons _ (List.Sublist.cons _ (List.Sublist.cons _ (List.Sublist.refl _)))) (by first | exact (fun _ _ h => h) | exact (fun _ _ h => h.1) | exact (fun _ _ h => h.1.1)) ?_)) | (show ownK _ _ _ _ _; (refine own_keep ?_))))
  conv => whnf
  exact ends_box (_, k') ⟨⟨by have := hr.1; omega, by have := hr.2.1 (by omega); omega⟩, hk'⟩ (fun _ => rfl) List.mem_cons_self (fun _ _ h => h) (fun _ _ _ => trivial)
end Go.Proofs.Ytajbngkcgbehlaa
/- GV -/
namespace Go.Proofs.Ytajbngkcgbehlaa
open Go.SX Go.RowKit
theorem ends_ints {w : World} {b : Nat} {t : BytesV} {p : IntsV → Prop} {H : Heap} {S : Asn} {nx j m k : Nat} {xs : List Int} (h0 : (0, Ent.box (cs (tcells t k)) 39) ∈ H) (he : (j, Ent.rows (ints xs) 1 3) ∈ H) (hj : j ≠ 0) (hm : m = xs.length) (hf : ∀ x ∈ xs, i64 x) (hl : xs.length ≤ 1000000) (hk : k ≤ t.bs.length)
    (hp : ∀ u : IntsV, u.xs = xs → u.sane → p u) (hS : ∀ R w', S.holds R w' → (restA w b).holds R w') : finK ⟨w, [(0, boxL b)]⟩ (.os j m) H S nx (TPost w b t IntsV.val intsA p) := by
  subst hm
  refine fin_of fun ρ w' hw => ?_
  have hn := box_rows hw hS h0 he hj
  rw [ints_length] at hn
  obtain ⟨u, e, h1, h2, h3⟩ := newInts hn hf hl
  exact ⟨(u, k), ⟨hp u h1 h2, hk⟩, by rw [e], (box_end hw hS h0).1, (box_end hw hS h0).2, h3⟩
def smallL (xs : List Int) : Prop := ∀ x ∈ xs, -4 ≤ x ∧ x ≤ 4
theorem small_i64 {xs : List Int} (h : smallL xs) : ∀ x ∈ xs, i64 x := fun x hx => ⟨by have := (h x hx).1; omega, by have := (h x hx).2; omega⟩
theorem smallL_snoc {xs : List Int} {x : Int} (h : smallL xs) (hx : -4 ≤ x ∧ x ≤ 4) : smallL (xs ++ [x]) := by
  intro y hy
  rcases List.mem_append.1 hy with hy | hy
  · exact h y hy
  · simp at hy; subst hy; exact hx
theorem ints_snoc (xs : List Int) (x : Int) {i : Nat} {T : TypeId} {H : Heap} : (i, Ent.rows (ints (xs ++ [x])) 1 T) ∈ (i, Ent.rows (List.take xs.length (ints xs) ++ [[.int .i64 x]]) 1 T) :: H := by
  rw [show ints (xs ++ [x]) = List.take xs.length (ints xs) ++ [[.int .i64 x]] by rw [List.take_of_length_le (by rw [ints_length]; exact Nat.le_refl _)]; simp [ints]]
  exact List.mem_cons_self
abbrev RowPost (w : World) (b : Nat) (t : BytesV) (n : Int) : Ending → World → Prop := TPost w b t IntsV.val intsA (fun u => u.xs.length = n.toNat ∧ smallL u.xs ∧ u.sane)
set_option maxRecDepth 20000 in
theorem row_any (w : World) (b : Nat) (t : BytesV) (k : Nat) (h : TapeOk w b t k) (n : Int) (hn : n ≤ 1000000) (hn0 : 0 ≤ n) :
    Calls Try.prog 95 #[.pointer (some ⟨b, 0, none⟩), .int .i64 n] w (RowPost w b t n) := by
  obtain ⟨hs, hby, hd, hk, hb⟩ := h
  refine calls_of tab tabOk Try.func95 rfl rfl rfl [(0, boxL b)] (fun _ => boxL b) [.lp 0 0 0 0, .c (.int .i64 n)] _ (restA w b) 1 (by simp [SV.rfs, SV.rf, boxL, add_none]) rfl (by show 2 ≤ _; decide) (abs_box hb) ?_
  (repeat' ((conv => whnf) <;> first | (show Wp _ _ _ _ _ _ _; (refine Wp.go tabOk rfl ?_)) | (show @cmpK _ _ _; (first | refine cmp_yes (by omega) ?_ | refine cmp_no (by omega) ?_ | (refine cmp_both ?_ ?_ <;> intro _))) | (show wrapK _ _ _; (refine wrap_i64 (by omega) (by omega) ?_)) | (show leK _ _ _; (refine le_of (by first | exact Nat.le_refl _ | omega) ?_)) | (show roomK _ _ _; (refine room_of (by first | omega | (dsimp only; omega)) ?_)) | (show ltK _ _ _; (refine lt_of (by omega) ?_)) | (show _ ∧ _; (refine ⟨?_, ?_⟩)) | (show keepK _ _ _ _ _; (refine keep_of (by first | exact List.Sublist.refl _ | exact List.Sublist.cons _ (List.Sublist.refl _) | exact List.Sublist.cons _ (List.Sublist.cons _ (List.Sublist.refl _)) | exact List.Sublist.cons _ (List.Sublist.cons _ (List.Sublist.cons _ (List.Sublist.refl _)))) (by first | exact (fun _ _ h => h) | exact (fun _ _ h => h.1) | exact (fun _ _ h => h.1.1)) ?_)) | (show ownK _ _ _ _ _; (refine own_keep ?_))))
  refine Wp.loop (σ := Nat × Nat × List Int) 2 (fun ⟨i, _, _⟩ => [(0, .lp 0 0 0 0), (1, .c (.int .i64 n)), (5, .os 1 i), (6, .c (.int .i64 i))]) (fun ⟨_, k, xs⟩ => [(1, .rows (ints xs) 1 3), (0, .box (cs (tcells t k)) 39)]) (fun _ => restA w b)
    (fun ⟨i, k, xs⟩ => (i : Int) ≤ n ∧ k ≤ t.bs.length ∧ xs.length = i ∧ smallL xs) (fun s => n.toNat - s.1) (0, k, []) [(1, none)] (by decide) (fun s => ⟨rfl, rfl⟩) ⟨hn0, hk, rfl, fun x hx => by simp at hx⟩ ⟨rfl, ⟨rfl, rfl, rfl, rfl, trivial⟩, ⟨rfl, List.mem_cons_self, trivial⟩, fun R w' h => h⟩ ?_
  rintro ⟨i, k, xs⟩ ⟨hi, hk, hl, hsm⟩
  subst hl
  by_cases hlt : (xs.length : Int) < n
  · (repeat' ((conv => whnf) <;> first | (show callK _ 94 _ _ _ _ _; (refine call_num (f := 94) [] t k _ (List.mem_cons_of_mem _ List.mem_cons_self) Try.call94 hs hby hk (fun R w' h => rest_holds hd h) (fun w' b' ht => small_any w' b' t k ht) (fun r k' hr hk' => ?_))) | (show leK _ _ _; (refine le_of (by rw [ints_length]; exact Nat.le_refl _) ?_)) | (show roomK _ _ _; (refine room_of (by show (xs.length + 1) * 8 ≤ 140737488355328; omega) ?_)) | (show Wp _ _ _ _ _ _ _; (refine Wp.go tabOk rfl ?_)) | (show @cmpK _ _ _; (first | refine cmp_yes (by omega) ?_ | refine cmp_no (by omega) ?_ | (refine cmp_both ?_ ?_ <;> intro _))) | (show wrapK _ _ _; (refine wrap_i64 (by omega) (by omega) ?_)) | (show leK _ _ _; (refine le_of (by first | exact Nat.le_refl _ | omega) ?_)) | (show roomK _ _ _; (refine room_of (by first | omega | (dsimp only; omega)) ?_)) | (show ltK _ _ _; (refine lt_of (by omega) ?_)) | (show _ ∧ _; (refine ⟨?_, ?_⟩)) | (show keepK _ _ _ _ _; (refine keep_of (by first | exact List.Sublist.refl _ | exact List.Sublist.cons _ (List.Sublist.refl _) | exact List.Sublist.cons _ (List.Sublist.cons _ (List.Sublist.refl _)) | exact List.Sublist.cons _ (List.Sublist.cons _ (List.Sublist.cons _ (List.Sublist.refl _)))) (by first | exact (fun _ _ h => h) | exact (fun _ _ h => h.1) | exact (fun _ _ h => h.1.1)) ?_)) | (show ownK _ _ _ _ _; (refine own_keep ?_))))
    exact ⟨(xs.length + 1, k', xs ++ [r]), [(1, some 3)], ⟨by show ((xs.length + 1 : Nat) : Int) ≤ n; omega, hk', by simp, smallL_snoc hsm hr⟩, by simp only; omega, rfl, ⟨rfl, rfl, rfl, rfl, trivial⟩, ⟨ints_snoc xs r, List.mem_cons_of_mem _ (List.mem_cons_of_mem _ (List.mem_cons_self : (0, Ent.box (cs (tcells t k')) 39) ∈ (0, Ent.box (cs (tcells t k')) 39) :: [])), trivial⟩, fun R w' h => h⟩
  · (repeat' ((conv => whnf) <;> first | (show Wp _ _ _ _ _ _ _; (refine Wp.go tabOk rfl ?_)) | (show @cmpK _ _ _; (first | refine cmp_yes (by omega) ?_ | refine cmp_no (by omega) ?_ | (refine cmp_both ?_ ?_ <;> intro _))) | (show wrapK _ _ _; (refine wrap_i64 (by omega) (by omega) ?_)) | (show leK _ _ _; (refine le_of (by first | exact Nat.le_refl _ | omega) ?_)) | (show roomK _ _ _; (refine room_of (by first | omega | (dsimp only; omega)) ?_)) | (show ltK _ _ _; (refine lt_of (by omega) ?_)) | (show _ ∧ _; (refine ⟨?_, ?_⟩)) | (show keepK _ _ _ _ _; (refine keep_of (by first | exact List.Sublist.refl _ | exact List.Sublist.cons _ (List.Sublist.refl _) | exact List.Sublist.cons _ (List.Sublist.cons _ (List.Sublist.refl _)) | exact List.Sublist.cons _ (List.Sublist.cons _ (List.Sublist.cons _ (List.Sublist.refl _)))) (by first | exact (fun _ _ h => h) | exact (fun _ _ h => h.1) | exact (fun _ _ h => h.1.1)) ?_)) | (show ownK _ _ _ _ _; (refine own_keep ?_))))
    conv => whnf
    exact ends_ints (List.mem_cons_of_mem _ List.mem_cons_self) List.mem_cons_self (by decide) rfl (small_i64 hsm) (by omega) hk (fun u hu hs => ⟨by rw [hu]; omega, hu ▸ hsm, hs⟩) (fun _ _ h => h)
end Go.Proofs.Ytajbngkcgbehlaa
/- GW -/
namespace Go.Proofs.Ytajbngkcgbehlaa
open Go.SX Go.RowKit
def NodeV.valA (n : NodeV) : Value := .agg n.cells.toArray
def nilI : IntsV := ⟨none, 0, []⟩
/-- a node's numbers; al: its shape is another's -/
def nodeD (n : NodeV) (al : Bool) : Asn where
  holds R w := (al = false → (intsA n.shape).holds R w) ∧ (intsA n.data).holds R w ∧ (intsA n.bias).holds R w
  stable := fun hR hw h => ⟨fun e => (intsA n.shape).stable hR hw (h.1 e), (intsA n.data).stable hR hw h.2.1, (intsA n.bias).stable hR hw h.2.2⟩
theorem nilI_holds (R : Nat → Prop) (w : World) : (intsA nilI).holds R w := ⟨fun r hr => by simp [nilI, ints] at hr, .inl rfl⟩
theorem own_new {w w' : World} {b : Nat} {ρ : Nat → SX.Loc} {nx j m : Nat} {H : Heap} {S : Asn} {cells : List SV} {T : TypeId} {xs : List Int} (hw : Abs ⟨w, [(0, boxL b)]⟩ ρ nx H S w') (hS : ∀ R w', S.holds R w' → (restA w b).holds R w') (h0 : (0, Ent.box cells T) ∈ H) (he : (j, Ent.rows (ints xs) 1 3) ∈ H) (hj : j ≠ 0) (hm : m = xs.length) (hf : ∀ x ∈ xs, i64 x) (hl : xs.length ≤ 1000000) :
    ∃ u : IntsV, (SV.os j m).rf ρ = u.val ∧ u.xs = xs ∧ u.sane ∧ (intsA u).holds (fun y => w.heap.size ≤ y ∧ y < w'.heap.size) w' := by
  subst hm
  have hn := box_rows hw hS h0 he hj
  rw [ints_length] at hn
  exact newInts hn hf hl
/-- what a made node is -/
structure Made (n : NodeV) : Prop where
  shape : n.shape.sane
  data : n.data.sane
  bias : n.bias.sane
  shapeFew : n.shape.xs.length ≤ 4
  dataFew : n.data.xs.length ≤ 1000
  biasFew : n.bias.xs.length ≤ 200
  kindFits : i64 n.kind
  aFits : i64 n.a
  bFits : i64 n.b
  loFits : i64 n.lo
  hiFits : i64 n.hi
  sizeFits : i64 n.size
theorem nilI_sane : nilI.sane := ⟨by simp [nilI], Nat.le_refl _, by simp [nilI]⟩
/-- a shape that a made graph has -/
structure ShOk (s : List Int) : Prop where
  pos : 0 < entries s
  few : entries s ≤ 18
  three : s.length = 3 → s.getD 0 0 ≤ 2 ∧ s.getD 1 0 * s.getD 2 0 ≤ 9
structure IsInput (n : NodeV) : Prop where
  made : Made n
  kind : n.kind = 1
  a : n.a = 0
  b : n.b = 0
  shape : ShOk n.shape.xs
  lo : -4 ≤ n.lo ∧ n.lo ≤ 4
  hi : n.lo ≤ n.hi ∧ n.hi ≤ 9
  size : n.size = 0
  data : n.data = nilI
  bias : n.bias = nilI
abbrev InPost (w : World) (b : Nat) (t : BytesV) : Ending → World → Prop := TPost w b t NodeV.valA (fun n => nodeD n false) IsInput
theorem z0 : i64 0 := ⟨by decide, by decide⟩
theorem z1 : i64 1 := ⟨by decide, by decide⟩
theorem fits_of {xs : List Int} (h : (xs.all fun x => decide (0 ≤ x ∧ x ≤ 1000)) = true) : ∀ x ∈ xs, i64 x := fun x hx => by
  have := List.all_eq_true.1 h x hx
  simp only [decide_eq_true_eq] at this
  exact ⟨by omega, by omega⟩
theorem ends_input {w : World} {b : Nat} {t : BytesV} {H : Heap} {S : Asn} {nx j m k : Nat} {xs : List Int} {lo hi : Int} (h0 : (0, Ent.box (cs (tcells t k)) 39) ∈ H) (he : (j, Ent.rows (ints xs) 1 3) ∈ H) (hj : j ≠ 0) (hm : m = xs.length) (hx : ∀ x ∈ xs, i64 x) (hl : xs.length ≤ 3) (hen : ShOk xs) (hk : k ≤ t.bs.length)
    (hlo : -4 ≤ lo ∧ lo ≤ 4) (hhi : lo ≤ hi ∧ hi ≤ 9) (hS : ∀ R w', S.holds R w' → (restA w b).holds R w') :
    finK ⟨w, [(0, boxL b)]⟩ (.agg [.c (.int .i64 1), .c (.int .i64 0), .c (.int .i64 0), .os j m, .c (.int .i64 lo), .c (.int .i64 hi), .c (.int .i64 0), .c (.slice none 0 0), .c (.slice none 0 0)]) H S nx (InPost w b t) := by
  refine fin_of fun ρ w' hw => ?_
  obtain ⟨u, e, h1, h2, h3⟩ := own_new hw hS h0 he hj hm hx (by omega)
  refine ⟨(⟨1, 0, 0, u, lo, hi, 0, nilI, nilI⟩, k), ⟨⟨⟨h2, nilI_sane, nilI_sane, by rw [h1]; omega, by simp [nilI], by simp [nilI], z1, z0, z0, ⟨by simp only; omega, by simp only; omega⟩, ⟨by simp only; omega, by simp only; omega⟩, z0⟩, rfl, rfl, rfl, by rw [h1]; exact hen, hlo, hhi, rfl, rfl, rfl⟩, hk⟩, ?_, (box_end hw hS h0).1, (box_end hw hS h0).2, fun _ => h3, nilI_holds _ _, nilI_holds _ _⟩
  simp only [SV.rf, SV.rfs] at e ⊢
  rw [e]
  rfl
theorem ent_1 : ShOk [1] := ⟨by unfold entries; decide, by unfold entries; decide, by decide⟩
theorem ent_2 : ShOk [2] := ⟨by unfold entries; decide, by unfold entries; decide, by decide⟩
theorem ent_3 : ShOk [3] := ⟨by unfold entries; decide, by unfold entries; decide, by decide⟩
theorem ent_22 : ShOk [2, 2] := ⟨by unfold entries; decide, by unfold entries; decide, by decide⟩
theorem ent_122 : ShOk [1, 2, 2] := ⟨by unfold entries; decide, by unfold entries; decide, by decide⟩
theorem ent_221 : ShOk [2, 2, 1] := ⟨by unfold entries; decide, by unfold entries; decide, by decide⟩
theorem ent_133 : ShOk [1, 3, 3] := ⟨by unfold entries; decide, by unfold entries; decide, by decide⟩
theorem ent_142 : ShOk [1, 4, 2] := ⟨by unfold entries; decide, by unfold entries; decide, by decide⟩
set_option maxRecDepth 20000 in
set_option maxHeartbeats 4000000 in
theorem input_any (w : World) (b : Nat) (t : BytesV) (k : Nat) (h : TapeOk w b t k) :
    Calls Try.prog 49 #[.pointer (some ⟨b, 0, none⟩)] w (InPost w b t) := by
  obtain ⟨hs, hby, hd, hk, hb⟩ := h
  refine calls_of tab tabOk Try.func49 rfl rfl rfl [(0, boxL b)] (fun _ => boxL b) [.lp 0 0 0 0] _ (restA w b) 1 (by simp [SV.rfs, SV.rf, boxL, add_none]) rfl (by show 1 ≤ _; decide) (abs_box hb) ?_
  (repeat' ((conv => whnf) <;> first | (show Wp _ _ _ _ _ _ _; (refine Wp.go tabOk rfl ?_)) | (show @cmpK _ _ _; (first | refine cmp_yes (by omega) ?_ | refine cmp_no (by omega) ?_ | (refine cmp_both ?_ ?_ <;> intro _))) | (show wrapK _ _ _; (refine wrap_i64 (by omega) (by omega) ?_)) | (show leK _ _ _; (refine le_of (by first | exact Nat.le_refl _ | omega) ?_)) | (show roomK _ _ _; (refine room_of (by first | omega | (dsimp only; omega)) ?_)) | (show ltK _ _ _; (refine lt_of (by omega) ?_)) | (show _ ∧ _; (refine ⟨?_, ?_⟩)) | (show keepK _ _ _ _ _; (refine keep_of (by first | exact List.Sublist.refl _ | exact List.Sublist.cons _ (List.Sublist.refl _) | exact List.Sublist.cons _ (List.Sublist.cons _ (List.Sublist.refl _)) | exact List.Sublist.cons _ (List.Sublist.cons _ (List.Sublist.cons _ (List.Sublist.refl _)))) (by first | exact (fun _ _ h => h) | exact (fun _ _ h => h.1) | exact (fun _ _ h => h.1.1)) ?_)) | (show ownK _ _ _ _ _; (refine own_keep ?_))))
  refine call_num (f := 50) [.int .i64 8] t k _ (by first | exact List.mem_cons_self | exact List.mem_cons_of_mem _ List.mem_cons_self | (repeat (first | exact List.mem_cons_self | apply List.mem_cons_of_mem))) Try.call50 hs hby hk (fun R w' h => rest_holds hd h) (fun w' b' ht => next_any w' b' t k ht 8 ⟨by decide, by decide⟩) (fun r k1 hr hk1 => ?_)
  have hr8 : r = 0 ∨ r = 1 ∨ r = 2 ∨ r = 3 ∨ r = 4 ∨ r = 5 ∨ r = 6 ∨ r = 7 := by have := hr.1; have := hr.2.1 (by omega); omega
  rcases hr8 with rfl | rfl | rfl | rfl | rfl | rfl | rfl | rfl
  all_goals
    (repeat' ((conv => whnf) <;> first | (show Wp _ _ _ _ _ _ _; (refine Wp.go tabOk rfl ?_)) | (show @cmpK _ _ _; (first | refine cmp_yes (by omega) ?_ | refine cmp_no (by omega) ?_ | (refine cmp_both ?_ ?_ <;> intro _))) | (show wrapK _ _ _; (refine wrap_i64 (by omega) (by omega) ?_)) | (show leK _ _ _; (refine le_of (by first | exact Nat.le_refl _ | omega) ?_)) | (show roomK _ _ _; (refine room_of (by first | omega | (dsimp only; omega)) ?_)) | (show ltK _ _ _; (refine lt_of (by omega) ?_)) | (show _ ∧ _; (refine ⟨?_, ?_⟩)) | (show keepK _ _ _ _ _; (refine keep_of (by first | exact List.Sublist.refl _ | exact List.Sublist.cons _ (List.Sublist.refl _) | exact List.Sublist.cons _ (List.Sublist.cons _ (List.Sublist.refl _)) | exact List.Sublist.cons _ (List.Sublist.cons _ (List.Sublist.cons _ (List.Sublist.refl _)))) (by first | exact (fun _ _ h => h) | exact (fun _ _ h => h.1) | exact (fun _ _ h => h.1.1)) ?_)) | (show ownK _ _ _ _ _; (refine own_keep ?_))))
    refine call_num (f := 94) [] t k1 _ (by first | exact List.mem_cons_self | exact List.mem_cons_of_mem _ List.mem_cons_self | (repeat (first | exact List.mem_cons_self | apply List.mem_cons_of_mem))) Try.call94 hs hby hk1 (fun R w' h => rest_holds hd h) (fun w' b' ht => small_any w' b' t k1 ht) (fun lo k2 hlo hk2 => ?_)
    (repeat' ((conv => whnf) <;> first | (show Wp _ _ _ _ _ _ _; (refine Wp.go tabOk rfl ?_)) | (show @cmpK _ _ _; (first | refine cmp_yes (by omega) ?_ | refine cmp_no (by omega) ?_ | (refine cmp_both ?_ ?_ <;> intro _))) | (show wrapK _ _ _; (refine wrap_i64 (by omega) (by omega) ?_)) | (show leK _ _ _; (refine le_of (by first | exact Nat.le_refl _ | omega) ?_)) | (show roomK _ _ _; (refine room_of (by first | omega | (dsimp only; omega)) ?_)) | (show ltK _ _ _; (refine lt_of (by omega) ?_)) | (show _ ∧ _; (refine ⟨?_, ?_⟩)) | (show keepK _ _ _ _ _; (refine keep_of (by first | exact List.Sublist.refl _ | exact List.Sublist.cons _ (List.Sublist.refl _) | exact List.Sublist.cons _ (List.Sublist.cons _ (List.Sublist.refl _)) | exact List.Sublist.cons _ (List.Sublist.cons _ (List.Sublist.cons _ (List.Sublist.refl _)))) (by first | exact (fun _ _ h => h) | exact (fun _ _ h => h.1) | exact (fun _ _ h => h.1.1)) ?_)) | (show ownK _ _ _ _ _; (refine own_keep ?_))))
    refine call_num (f := 50) [.int .i64 6] t k2 _ (by first | exact List.mem_cons_self | exact List.mem_cons_of_mem _ List.mem_cons_self | (repeat (first | exact List.mem_cons_self | apply List.mem_cons_of_mem))) Try.call50 hs hby hk2 (fun R w' h => rest_holds hd h) (fun w' b' ht => next_any w' b' t k2 ht 6 ⟨by decide, by decide⟩) (fun r k3 hr hk3 => ?_)
    have hr1 := hr.1
    have hr2 := hr.2.1 (by omega)
    (repeat' ((conv => whnf) <;> first | (show Wp _ _ _ _ _ _ _; (refine Wp.go tabOk rfl ?_)) | (show @cmpK _ _ _; (first | refine cmp_yes (by omega) ?_ | refine cmp_no (by omega) ?_ | (refine cmp_both ?_ ?_ <;> intro _))) | (show wrapK _ _ _; (refine wrap_i64 (by omega) (by omega) ?_)) | (show leK _ _ _; (refine le_of (by first | exact Nat.le_refl _ | omega) ?_)) | (show roomK _ _ _; (refine room_of (by first | omega | (dsimp only; omega)) ?_)) | (show ltK _ _ _; (refine lt_of (by omega) ?_)) | (show _ ∧ _; (refine ⟨?_, ?_⟩)) | (show keepK _ _ _ _ _; (refine keep_of (by first | exact List.Sublist.refl _ | exact List.Sublist.cons _ (List.Sublist.refl _) | exact List.Sublist.cons _ (List.Sublist.cons _ (List.Sublist.refl _)) | exact List.Sublist.cons _ (List.Sublist.cons _ (List.Sublist.cons _ (List.Sublist.refl _)))) (by first | exact (fun _ _ h => h) | exact (fun _ _ h => h.1) | exact (fun _ _ h => h.1.1)) ?_)) | (show ownK _ _ _ _ _; (refine own_keep ?_))))
    conv => whnf
  · exact ends_input (j := 2) (xs := [1]) (by first | exact List.mem_cons_self | exact List.mem_cons_of_mem _ List.mem_cons_self | (repeat (first | exact List.mem_cons_self | apply List.mem_cons_of_mem))) (by first | exact List.mem_cons_self | exact List.mem_cons_of_mem _ List.mem_cons_self | (repeat (first | exact List.mem_cons_self | apply List.mem_cons_of_mem))) (by decide) rfl (fits_of rfl) (by decide) ent_1 hk3 hlo ⟨by omega, by omega⟩ (fun _ _ h => h)
  · exact ends_input (j := 3) (xs := [2]) (by first | exact List.mem_cons_self | exact List.mem_cons_of_mem _ List.mem_cons_self | (repeat (first | exact List.mem_cons_self | apply List.mem_cons_of_mem))) (by first | exact List.mem_cons_self | exact List.mem_cons_of_mem _ List.mem_cons_self | (repeat (first | exact List.mem_cons_self | apply List.mem_cons_of_mem))) (by decide) rfl (fits_of rfl) (by decide) ent_2 hk3 hlo ⟨by omega, by omega⟩ (fun _ _ h => h)
  · exact ends_input (j := 4) (xs := [3]) (by first | exact List.mem_cons_self | exact List.mem_cons_of_mem _ List.mem_cons_self | (repeat (first | exact List.mem_cons_self | apply List.mem_cons_of_mem))) (by first | exact List.mem_cons_self | exact List.mem_cons_of_mem _ List.mem_cons_self | (repeat (first | exact List.mem_cons_self | apply List.mem_cons_of_mem))) (by decide) rfl (fits_of rfl) (by decide) ent_3 hk3 hlo ⟨by omega, by omega⟩ (fun _ _ h => h)
  · exact ends_input (j := 5) (xs := [2, 2]) (by first | exact List.mem_cons_self | exact List.mem_cons_of_mem _ List.mem_cons_self | (repeat (first | exact List.mem_cons_self | apply List.mem_cons_of_mem))) (by first | exact List.mem_cons_self | exact List.mem_cons_of_mem _ List.mem_cons_self | (repeat (first | exact List.mem_cons_self | apply List.mem_cons_of_mem))) (by decide) rfl (fits_of rfl) (by decide) ent_22 hk3 hlo ⟨by omega, by omega⟩ (fun _ _ h => h)
  · exact ends_input (j := 6) (xs := [1, 2, 2]) (by first | exact List.mem_cons_self | exact List.mem_cons_of_mem _ List.mem_cons_self | (repeat (first | exact List.mem_cons_self | apply List.mem_cons_of_mem))) (by first | exact List.mem_cons_self | exact List.mem_cons_of_mem _ List.mem_cons_self | (repeat (first | exact List.mem_cons_self | apply List.mem_cons_of_mem))) (by decide) rfl (fits_of rfl) (by decide) ent_122 hk3 hlo ⟨by omega, by omega⟩ (fun _ _ h => h)
  · exact ends_input (j := 7) (xs := [2, 2, 1]) (by first | exact List.mem_cons_self | exact List.mem_cons_of_mem _ List.mem_cons_self | (repeat (first | exact List.mem_cons_self | apply List.mem_cons_of_mem))) (by first | exact List.mem_cons_self | exact List.mem_cons_of_mem _ List.mem_cons_self | (repeat (first | exact List.mem_cons_self | apply List.mem_cons_of_mem))) (by decide) rfl (fits_of rfl) (by decide) ent_221 hk3 hlo ⟨by omega, by omega⟩ (fun _ _ h => h)
  · exact ends_input (j := 8) (xs := [1, 3, 3]) (by first | exact List.mem_cons_self | exact List.mem_cons_of_mem _ List.mem_cons_self | (repeat (first | exact List.mem_cons_self | apply List.mem_cons_of_mem))) (by first | exact List.mem_cons_self | exact List.mem_cons_of_mem _ List.mem_cons_self | (repeat (first | exact List.mem_cons_self | apply List.mem_cons_of_mem))) (by decide) rfl (fits_of rfl) (by decide) ent_133 hk3 hlo ⟨by omega, by omega⟩ (fun _ _ h => h)
  · exact ends_input (j := 9) (xs := [1, 4, 2]) (by first | exact List.mem_cons_self | exact List.mem_cons_of_mem _ List.mem_cons_self | (repeat (first | exact List.mem_cons_self | apply List.mem_cons_of_mem))) (by first | exact List.mem_cons_self | exact List.mem_cons_of_mem _ List.mem_cons_self | (repeat (first | exact List.mem_cons_self | apply List.mem_cons_of_mem))) (by decide) rfl (fits_of rfl) (by decide) ent_142 hk3 hlo ⟨by omega, by omega⟩ (fun _ _ h => h)
end Go.Proofs.Ytajbngkcgbehlaa
/- SJ -/
namespace Go.Proofs.Ytajbngkcgbehlaa
open Go.SX Go.RowKit
abbrev RdS := List Int × Int
def readMany {α : Type} (f : RdS → α × RdS) : Nat → RdS → List α × RdS
  | 0, s => ([], s)
  | k + 1, s => if s.2 ≠ 0 then ([], s) else ((f s).1 :: (readMany f k (f s).2).1, (readMany f k (f s).2).2)
theorem readMany_stop {α : Type} (f : RdS → α × RdS) {k : Nat} {s : RdS} (h : k = 0 ∨ s.2 ≠ 0) : readMany f k s = ([], s) := by
  cases k with
  | zero => rfl
  | succ k => unfold readMany; rw [if_pos (h.resolve_left (by omega))]
theorem readMany_go {α : Type} (f : RdS → α × RdS) {k : Nat} {s : RdS} (h : s.2 = 0) : readMany f (k + 1) s = ((f s).1 :: (readMany f k (f s).2).1, (readMany f k (f s).2).2) := by
  show (if s.2 ≠ 0 then _ else _) = _
  rw [if_neg (fun h' => h' h)]
/-- so far read, and to be read -/
def Reading {α : Type} (f : RdS → α × RdS) (acc : List α) (k : Nat) (s : RdS) (r : List α × RdS) : Prop := acc ++ (readMany f k s).1 = r.1 ∧ (readMany f k s).2 = r.2
theorem Reading.start {α : Type} (f : RdS → α × RdS) (k : Nat) (s : RdS) : Reading f [] k s (readMany f k s) := ⟨rfl, rfl⟩
theorem Reading.next {α : Type} {f : RdS → α × RdS} {acc : List α} {k : Nat} {s : RdS} {r : List α × RdS} (h : Reading f acc (k + 1) s r) (h0 : s.2 = 0) : Reading f (acc ++ [(f s).1]) k (f s).2 r := by
  obtain ⟨h1, h2⟩ := h
  rw [readMany_go f h0] at h1 h2
  exact ⟨by rw [List.append_assoc]; exact h1, h2⟩
theorem Reading.stop {α : Type} {f : RdS → α × RdS} {acc : List α} {k : Nat} {s : RdS} {r : List α × RdS} (h : Reading f acc k s r) (h0 : k = 0 ∨ s.2 ≠ 0) : (acc, s) = r := by
  obtain ⟨h1, h2⟩ := h
  rw [readMany_stop f h0] at h1 h2
  simp only [List.append_nil] at h1
  exact Prod.ext h1 h2
def readRow (s : RdS) : List Int × RdS := readMany rdSigned (rdNum 2 s).1.toNat (rdNum 2 s).2
/-- what a reading call leaves that hands back data -/
abbrev RdPostD {α β : Type} (T : TypeId) (w : World) (b : Nat) (u : RdV) (val : β → Value) (D : β → Asn) (pl : β → α) (ok : β → Prop) (f : α × RdS) : Ending → World → Prop :=
  BoxPost w b T (fun x : β × RdV × Int => val x.1) (fun x => rcells x.2.1 x.2.2) (fun x => D x.1) (fun x => SX.Rest u x.2.1 ∧ (pl x.1, x.2.1.bs, x.2.2) = f ∧ ok x.1)
theorem call_rxD {cx : Cx} {f : FuncId} {H : Heap} {S : Asn} {nx i : Nat} {K : SV → Heap → Asn → Nat → Prop} {α β : Type} {T : TypeId} {u0 u : RdV} {s : RdS} {args : List SV} (mk : Value → List Value) (ha : ∀ ρ b, (ρ i).base = some ⟨b, 0, none⟩ → SV.rfs ρ args = mk (.pointer (some ⟨b, 0, none⟩))) (val : β → Value) (D : β → Asn) (pl : β → α) (ok : β → Prop) (r : RdS → α × RdS) (hi : (i, Ent.box (cs (rcells u s.2)) T) ∈ H) (hf : ∀ ar w, (callFunc f ar).run cx.P w = .ok (.enter f ar) w)
    (h0 : RdBase u0 S) (hr : SX.Rest u0 u) (hbs : u.bs = s.1)
    (hc : ∀ w' b, RdOk T w' b u s.2 → Calls cx.P f (mk (.pointer (some ⟨b, 0, none⟩))).toArray w' (RdPostD T w' b u val D pl ok (r (u.bs, s.2))))
    (h : ∀ (y : β) u', SX.Rest u0 u' → u'.bs = (r s).2.1 → pl y = (r s).1 → ok y → K (.c (val y)) (setH i (.box (cs (rcells u' (r s).2.2)) T) H) (S.and ((D y).past cx.B.w0.heap.size)) nx) : callK cx f args H S nx K := by
  have e : (u.bs, s.2) = s := by rw [hbs]
  refine call_box hi hf (fun x : β × RdV × Int => val x.1) (fun x => rcells x.2.1 x.2.2) (fun x => D x.1) (fun x => SX.Rest u x.2.1 ∧ (pl x.1, x.2.1.bs, x.2.2) = r s ∧ ok x.1) ?_ (fun x hx => ?_)
  · intro R ρ w' b hw hR hRo hρ hb
    rw [rfs_cs] at hb
    rw [ha ρ b hρ]
    have := hc w' b ⟨Nat.le_trans hr.len h0.small, hr.bytes h0.bytes, hr.room, (bytsD u).mono (hr.data R w' (h0.data R w' hR)) hRo, hb⟩
    rw [e] at this
    exact this
  · obtain ⟨y, u', e'⟩ := x
    obtain ⟨h1, h2, h3⟩ := hx
    have h4 := h y u' (hr.trans h1) (by rw [← h2]) (by rw [← h2]) h3
    rw [← h2] at h4
    exact h4
abbrev RRowPost (T : TypeId) (w : World) (b : Nat) (u : RdV) (e : Int) : Ending → World → Prop := RdPostD T w b u IntsV.val intsA IntsV.xs IntsV.sane (readRow (u.bs, e))
theorem rdTwo_bound {s : RdS} (hb : ∀ x ∈ s.1, 0 ≤ x ∧ x ≤ 255) : 0 ≤ (rdNum 2 s).1 ∧ (rdNum 2 s).1 ≤ 65535 := by
  unfold rdNum
  split
  · exact ⟨Int.le_refl _, (show (0 : Int) ≤ 65535 by decide)⟩
  · split
    · exact ⟨Int.le_refl _, (show (0 : Int) ≤ 65535 by decide)⟩
    · have h := valB_bound (l := s.1.take 2) (fun x hx => hb x (List.mem_of_mem_take hx))
      have hl : (s.1.take 2).length = 2 := by rw [List.length_take]; omega
      rw [hl] at h
      have : valB (List.take 2 s.1) < 65536 := h.2
      exact ⟨h.1, by show valB (List.take 2 s.1) ≤ _; omega⟩
theorem wrap_nat {z : Int} {K : Int → Prop} (m : Nat) (h : z = (m : Int)) (hm : m ≤ 9000000000000000000) (hk : K (m : Int)) : wrapK .i64 z K := by
  subst h
  exact wrap_i64 (by omega) (by omega) hk
theorem sg_i64 {n : Int} (h : 0 ≤ n ∧ n ≤ 4294967295) : i64 (sg n) := by unfold sg i64; split <;> omega
theorem row_ends {T : TypeId} {w : World} {b : Nat} {u u' : RdV} {e : Int} {acc : List Int} {s : RdS} {H : Heap} {S : Asn} {nx j m : Nat} (hr : SX.Rest u u') (hbs : u'.bs = s.1) (hrd : (acc, s) = readRow (u.bs, e)) (h0 : (0, Ent.box (cs (rcells u' s.2)) T) ∈ H) (he : (j, Ent.rows (ints acc) 1 3) ∈ H) (hj : j ≠ 0) (hm : m = acc.length) (hf : ∀ x ∈ acc, i64 x) (hl : acc.length ≤ 1000000) (hS : ∀ R w', S.holds R w' → (restA w b).holds R w') : finK ⟨w, [(0, boxL b)]⟩ (.os j m) H S nx (RRowPost T w b u e) := by
  refine fin_of fun ρ w' hw => ?_
  obtain ⟨y, e1, h1, h2, h3⟩ := own_new hw hS h0 he hj hm hf hl
  exact ⟨(y, u', s.2), ⟨hr, by rw [← hrd, h1, hbs], h2⟩, by rw [e1], (box_end hw hS h0).1, (box_end hw hS h0).2, h3⟩
theorem ints_snoc' (xs : List Int) (x : Int) {i n : Nat} {T : TypeId} {H : Heap} (hn : n = xs.length) : (i, Ent.rows (ints (xs ++ [x])) 1 T) ∈ (i, Ent.rows (List.take n (ints xs) ++ [[.int .i64 x]]) 1 T) :: H := by
  subst hn; exact ints_snoc xs x
set_option maxRecDepth 20000 in
theorem rrow_any (w : World) (b : Nat) (u : RdV) (e : Int) (h : RdOk 100 w b u e) : Calls Try.prog 67 #[.agg #[.pointer (some ⟨b, 0, none⟩)], .int .i64 4] w (RRowPost 100 w b u e) := by
  obtain ⟨hs, hby, hrm, hd, hb⟩ := h
  have h0 := base_rest hs hby hd
  have hB := rdNum_bound (n := 2) (s := (u.bs, e)) (by decide) hby
  
  refine calls_of tab tabOk Try.func67 rfl rfl rfl [(0, boxL b)] (fun _ => boxL b) [.agg [.lp 0 0 0 0], .c (.int .i64 4)] _ (restA w b) 1 (by simp [SV.rfs, SV.rf, boxL, add_none]) rfl (by show 2 ≤ _; decide) (abs_box hb) ?_
  (repeat' ((conv => whnf) <;> first | (show callK _ 65 _ _ _ _ _; (refine ry_rn (s := (u.bs, e)) (by decide) (by repeat (first | exact List.mem_cons_self | apply List.mem_cons_of_mem)) h0 (SX.Rest.refl hrm) rfl (fun u1 hr hbs => ?_))) | (show Wp _ _ _ _ _ _ _; (refine Wp.go tabOk rfl ?_)) | (show @cmpK _ _ _; (first | refine cmp_yes (by omega) ?_ | refine cmp_no (by omega) ?_ | (refine cmp_both ?_ ?_ <;> intro _))) | (show wrapK _ _ _; (refine wrap_i64 (by omega) (by omega) ?_)) | (show leK _ _ _; (refine le_of (by first | exact Nat.le_refl _ | omega) ?_)) | (show roomK _ _ _; (refine room_of (by first | omega | (dsimp only; omega)) ?_)) | (show ltK _ _ _; (refine lt_of (by omega) ?_)) | (show _ ∧ _; (refine ⟨?_, ?_⟩)) | (show keepK _ _ _ _ _; (refine keep_of (by first | exact List.Sublist.refl _ | exact List.Sublist.cons _ (List.Sublist.refl _) | exact List.Sublist.cons _ (List.Sublist.cons _ (List.Sublist.refl _)) | exact List.Sublist.cons _ (List.Sublist.cons _ (List.Sublist.cons _ (List.Sublist.refl _)))) (by first | exact (fun _ _ h => h) | exact (fun _ _ h => h.1) | exact (fun _ _ h => h.1.1)) ?_)) | (show ownK _ _ _ _ _; (refine own_keep ?_))))
  have hk : ((rdNum 2 (u.bs, e)).1.toNat : Int) = (rdNum 2 (u.bs, e)).1 := by omega
  rw [← hk]
  have hkb : (rdNum 2 (u.bs, e)).1.toNat ≤ 65535 := by
    have := rdTwo_bound (s := (u.bs, e)) hby
    omega
  generalize hkk : (rdNum 2 (u.bs, e)).1.toNat = k0 at *
  have hrow : readRow (u.bs, e) = readMany rdSigned k0 (rdNum 2 (u.bs, e)).2 := by unfold readRow; rw [hkk]
  (repeat' ((conv => whnf) <;> first | (show Wp _ _ _ _ _ _ _; (refine Wp.go tabOk rfl ?_)) | (show @cmpK _ _ _; (first | refine cmp_yes (by omega) ?_ | refine cmp_no (by omega) ?_ | (refine cmp_both ?_ ?_ <;> intro _))) | (show wrapK _ _ _; (refine wrap_i64 (by omega) (by omega) ?_)) | (show leK _ _ _; (refine le_of (by first | exact Nat.le_refl _ | omega) ?_)) | (show roomK _ _ _; (refine room_of (by first | omega | (dsimp only; omega)) ?_)) | (show ltK _ _ _; (refine lt_of (by omega) ?_)) | (show _ ∧ _; (refine ⟨?_, ?_⟩)) | (show keepK _ _ _ _ _; (refine keep_of (by first | exact List.Sublist.refl _ | exact List.Sublist.cons _ (List.Sublist.refl _) | exact List.Sublist.cons _ (List.Sublist.cons _ (List.Sublist.refl _)) | exact List.Sublist.cons _ (List.Sublist.cons _ (List.Sublist.cons _ (List.Sublist.refl _)))) (by first | exact (fun _ _ h => h) | exact (fun _ _ h => h.1) | exact (fun _ _ h => h.1.1)) ?_)) | (show ownK _ _ _ _ _; (refine own_keep ?_))))
  refine Wp.loop (σ := Nat × Nat × List Int × RdS × RdV) 3 (fun ⟨k, m, _, _, _⟩ => [(1, .c (.int .i64 4)), (2, .lp 1 0 0 0), (5, .os 2 m), (6, .c (.int .i64 k))]) (fun ⟨_, _, acc, s, u⟩ => [(2, .rows (ints acc) 1 3), (1, .box [.lp 0 0 0 0] 102), (0, .box (cs (rcells u s.2)) 100)]) (fun _ => restA w b)
    (fun ⟨k, m, acc, s, v⟩ => Reading rdSigned acc k s (readRow (u.bs, e)) ∧ m = acc.length ∧ acc.length + k ≤ 65535 ∧ (∀ x ∈ acc, i64 x) ∧ SX.Rest u v ∧ v.bs = s.1) (fun s => s.1) (k0, 0, [], (rdNum 2 (u.bs, e)).2, u1) [(2, none)] (by decide) (fun s => ⟨rfl, rfl⟩)
    ⟨by rw [hrow]; exact Reading.start _ _ _, rfl, by simp; omega, fun x hx => by simp at hx, hr, hbs⟩ ⟨rfl, ⟨rfl, rfl, rfl, rfl, trivial⟩, ⟨rfl, (by repeat (first | exact List.mem_cons_self | apply List.mem_cons_of_mem)), (by repeat (first | exact List.mem_cons_self | apply List.mem_cons_of_mem)), trivial⟩, fun _ _ h => h⟩ ?_
  rintro ⟨k, m, acc, s, v⟩ ⟨hR, hm, hl, hf, hr, hbs⟩
  by_cases hgo : 0 < k ∧ s.2 = 0
  · obtain ⟨k, rfl⟩ : ∃ k', k = k' + 1 := ⟨k - 1, by omega⟩
    have hz := hgo.2
    have hsb := rdNum_bound (n := 4) (s := s) (by decide) (by rw [← hbs]; exact hr.bytes hby)
    have hx : i64 (rdSigned s).1 := sg_i64 hsb
    (repeat' ((conv => whnf) <;> first | (show callK _ 66 _ _ _ _ _; (refine ry_rsigned (by repeat (first | exact List.mem_cons_self | apply List.mem_cons_of_mem)) h0 hr hbs (fun v hr hbs => ?_))) | (show leK _ _ _; (refine le_of (by rw [ints_length, hm]; exact Nat.le_refl _) ?_)) | (show roomK _ _ _; (refine room_of (by show (m + 1) * 8 ≤ 140737488355328; omega) ?_)) | (show wrapK _ _ _; (refine wrap_nat k (by omega) (by omega) ?_)) | (show Wp _ _ _ _ _ _ _; (refine Wp.go tabOk rfl ?_)) | (show @cmpK _ _ _; (first | refine cmp_yes (by omega) ?_ | refine cmp_no (by omega) ?_ | (refine cmp_both ?_ ?_ <;> intro _))) | (show wrapK _ _ _; (refine wrap_i64 (by omega) (by omega) ?_)) | (show leK _ _ _; (refine le_of (by first | exact Nat.le_refl _ | omega) ?_)) | (show roomK _ _ _; (refine room_of (by first | omega | (dsimp only; omega)) ?_)) | (show ltK _ _ _; (refine lt_of (by omega) ?_)) | (show _ ∧ _; (refine ⟨?_, ?_⟩)) | (show keepK _ _ _ _ _; (refine keep_of (by first | exact List.Sublist.refl _ | exact List.Sublist.cons _ (List.Sublist.refl _) | exact List.Sublist.cons _ (List.Sublist.cons _ (List.Sublist.refl _)) | exact List.Sublist.cons _ (List.Sublist.cons _ (List.Sublist.cons _ (List.Sublist.refl _)))) (by first | exact (fun _ _ h => h) | exact (fun _ _ h => h.1) | exact (fun _ _ h => h.1.1)) ?_)) | (show ownK _ _ _ _ _; (refine own_keep ?_))))
    conv => whnf
    exact ⟨(k, m + 1, acc ++ [(rdSigned s).1], (rdSigned s).2, _), [(2, some 4)], ⟨hR.next hz, by rw [hm]; simp, by rw [List.length_append, List.length_singleton]; omega, fun x hx' => by
      rcases List.mem_append.1 hx' with h | h
      · exact hf x h
      · simp at h; subst h; exact hx, by assumption, by assumption⟩, Nat.lt_succ_self k, rfl, ⟨rfl, rfl, rfl, rfl, trivial⟩, ⟨ints_snoc' _ _ hm, (by repeat (first | exact List.mem_cons_self | apply List.mem_cons_of_mem)), (by repeat (first | exact List.mem_cons_self | apply List.mem_cons_of_mem)), trivial⟩, fun _ _ h => h⟩
  · have hst := hR.stop (by omega)
    (repeat' ((conv => whnf) <;> first | (show Wp _ _ _ _ _ _ _; (refine Wp.go tabOk rfl ?_)) | (show @cmpK _ _ _; (first | refine cmp_yes (by omega) ?_ | refine cmp_no (by omega) ?_ | (refine cmp_both ?_ ?_ <;> intro _))) | (show wrapK _ _ _; (refine wrap_i64 (by omega) (by omega) ?_)) | (show leK _ _ _; (refine le_of (by first | exact Nat.le_refl _ | omega) ?_)) | (show roomK _ _ _; (refine room_of (by first | omega | (dsimp only; omega)) ?_)) | (show ltK _ _ _; (refine lt_of (by omega) ?_)) | (show _ ∧ _; (refine ⟨?_, ?_⟩)) | (show keepK _ _ _ _ _; (refine keep_of (by first | exact List.Sublist.refl _ | exact List.Sublist.cons _ (List.Sublist.refl _) | exact List.Sublist.cons _ (List.Sublist.cons _ (List.Sublist.refl _)) | exact List.Sublist.cons _ (List.Sublist.cons _ (List.Sublist.cons _ (List.Sublist.refl _)))) (by first | exact (fun _ _ h => h) | exact (fun _ _ h => h.1) | exact (fun _ _ h => h.1.1)) ?_)) | (show ownK _ _ _ _ _; (refine own_keep ?_))))
    all_goals first | omega | skip
    all_goals (conv => whnf)
    all_goals exact row_ends hr hbs hst (by repeat (first | exact List.mem_cons_self | apply List.mem_cons_of_mem)) List.mem_cons_self (by decide) hm hf (by omega) (fun _ _ h => h)
end Go.Proofs.Ytajbngkcgbehlaa
/- SK -/
namespace Go.Proofs.Ytajbngkcgbehlaa
open Go.SX Go.RowKit
set_option maxRecDepth 20000 in
theorem prow_any (w : World) (b : Nat) (u : RdV) (e : Int) (h : RdOk 125 w b u e) : Calls Try.prog 101 #[.pointer (some ⟨b, 0, none⟩), .func (.func 100) #[.pointer (some ⟨b, 0, none⟩)] #[]] w (RRowPost 125 w b u e) := by
  obtain ⟨hs, hby, hrm, hd, hb⟩ := h
  have h0 := base_rest hs hby hd
  have hB := rdTwo_bound (s := (u.bs, e)) hby
  
  refine calls_of tab tabOk Try.func101 rfl rfl rfl [(0, boxL b)] (fun _ => boxL b) [.lp 0 0 0 0, .fn (.func 100) [.lp 0 0 0 0] []] _ (restA w b) 1 (by simp [SV.rfs, SV.rf, boxL, add_none]) rfl (by show 2 ≤ _; decide) (abs_box hb) ?_
  (repeat' ((conv => whnf) <;> first | (show callK _ 59 _ _ _ _ _; (refine ry_two (s := (u.bs, e)) (by repeat (first | exact List.mem_cons_self | apply List.mem_cons_of_mem)) h0 (SX.Rest.refl hrm) rfl (fun u1 hr hbs => ?_))) | (show Wp _ _ _ _ _ _ _; (refine Wp.go tabOk rfl ?_)) | (show @cmpK _ _ _; (first | refine cmp_yes (by omega) ?_ | refine cmp_no (by omega) ?_ | (refine cmp_both ?_ ?_ <;> intro _))) | (show wrapK _ _ _; (refine wrap_i64 (by omega) (by omega) ?_)) | (show leK _ _ _; (refine le_of (by first | exact Nat.le_refl _ | omega) ?_)) | (show roomK _ _ _; (refine room_of (by first | omega | (dsimp only; omega)) ?_)) | (show ltK _ _ _; (refine lt_of (by omega) ?_)) | (show _ ∧ _; (refine ⟨?_, ?_⟩)) | (show keepK _ _ _ _ _; (refine keep_of (by first | exact List.Sublist.refl _ | exact List.Sublist.cons _ (List.Sublist.refl _) | exact List.Sublist.cons _ (List.Sublist.cons _ (List.Sublist.refl _)) | exact List.Sublist.cons _ (List.Sublist.cons _ (List.Sublist.cons _ (List.Sublist.refl _)))) (by first | exact (fun _ _ h => h) | exact (fun _ _ h => h.1) | exact (fun _ _ h => h.1.1)) ?_)) | (show ownK _ _ _ _ _; (refine own_keep ?_))))
  have hk : ((rdNum 2 (u.bs, e)).1.toNat : Int) = (rdNum 2 (u.bs, e)).1 := by omega
  rw [← hk]
  have hkb : (rdNum 2 (u.bs, e)).1.toNat ≤ 65535 := by omega
  generalize hkk : (rdNum 2 (u.bs, e)).1.toNat = k0 at *
  have hrow : readRow (u.bs, e) = readMany rdSigned k0 (rdNum 2 (u.bs, e)).2 := by unfold readRow; rw [hkk]
  refine call_inline tabOk Try.func61 rfl rfl rfl Try.call61 rfl (by show 3 ≤ _; decide) ?_
  
  (repeat' ((conv => whnf) <;> first | (show Wp _ _ _ _ _ _ _; (refine Wp.go tabOk rfl ?_)) | (show @cmpK _ _ _; (first | refine cmp_yes (by omega) ?_ | refine cmp_no (by omega) ?_ | (refine cmp_both ?_ ?_ <;> intro _))) | (show wrapK _ _ _; (refine wrap_i64 (by omega) (by omega) ?_)) | (show leK _ _ _; (refine le_of (by first | exact Nat.le_refl _ | omega) ?_)) | (show roomK _ _ _; (refine room_of (by first | omega | (dsimp only; omega)) ?_)) | (show ltK _ _ _; (refine lt_of (by omega) ?_)) | (show _ ∧ _; (refine ⟨?_, ?_⟩)) | (show keepK _ _ _ _ _; (refine keep_of (by first | exact List.Sublist.refl _ | exact List.Sublist.cons _ (List.Sublist.refl _) | exact List.Sublist.cons _ (List.Sublist.cons _ (List.Sublist.refl _)) | exact List.Sublist.cons _ (List.Sublist.cons _ (List.Sublist.cons _ (List.Sublist.refl _)))) (by first | exact (fun _ _ h => h) | exact (fun _ _ h => h.1) | exact (fun _ _ h => h.1.1)) ?_)) | (show ownK _ _ _ _ _; (refine own_keep ?_))))
  refine Wp.loop (σ := Nat × Nat × List Int × RdS × RdV) 4 (fun ⟨k, m, _, _, _⟩ => [(0, .lp 0 0 0 0), (1, .c (.int .i64 k)), (2, .fn (.func 117) [] [.lp 2 0 0 0, .lp 1 0 0 0])]) (fun ⟨_, m, acc, s, u⟩ => [(3, .rows (ints acc) 1 3), (2, .box [.os 3 m] 32), (1, .box [.fn (.func 100) [.lp 0 0 0 0] []] 95), (0, .box (cs (rcells u s.2)) 125)]) (fun _ => restA w b)
    (fun ⟨k, m, acc, s, v⟩ => Reading rdSigned acc k s (readRow (u.bs, e)) ∧ m = acc.length ∧ acc.length + k ≤ 65535 ∧ (∀ x ∈ acc, i64 x) ∧ SX.Rest u v ∧ v.bs = s.1) (fun s => s.1) (k0, 0, [], (rdNum 2 (u.bs, e)).2, u1) [(3, none)] (by decide) (fun s => ⟨rfl, rfl⟩)
    ⟨by rw [hrow]; exact Reading.start _ _ _, rfl, by simp; omega, fun x hx => by simp at hx, hr, hbs⟩ ⟨rfl, ⟨rfl, rfl, rfl, trivial⟩, ⟨rfl, (by repeat (first | exact List.mem_cons_self | apply List.mem_cons_of_mem)), (by repeat (first | exact List.mem_cons_self | apply List.mem_cons_of_mem)), (by repeat (first | exact List.mem_cons_self | apply List.mem_cons_of_mem)), trivial⟩, fun _ _ h => h⟩ ?_
  rintro ⟨k, m, acc, s, v⟩ ⟨hR, hm, hl, hf, hr, hbs⟩
  by_cases hgo : 0 < k ∧ s.2 = 0
  · obtain ⟨k, rfl⟩ : ∃ k', k = k' + 1 := ⟨k - 1, by omega⟩
    have hz := hgo.2
    have hsb := rdNum_bound (n := 4) (s := s) (by decide) (by rw [← hbs]; exact hr.bytes hby)
    have hx : i64 (rdSigned s).1 := sg_i64 hsb
    (repeat' ((conv => whnf) <;> first | (show Wp _ _ _ _ _ _ _; (refine Wp.go tabOk rfl ?_)) | (show @cmpK _ _ _; (first | refine cmp_yes (by omega) ?_ | refine cmp_no (by omega) ?_ | (refine cmp_both ?_ ?_ <;> intro _))) | (show wrapK _ _ _; (refine wrap_i64 (by omega) (by omega) ?_)) | (show leK _ _ _; (refine le_of (by first | exact Nat.le_refl _ | omega) ?_)) | (show roomK _ _ _; (refine room_of (by first | omega | (dsimp only; omega)) ?_)) | (show ltK _ _ _; (refine lt_of (by omega) ?_)) | (show _ ∧ _; (refine ⟨?_, ?_⟩)) | (show keepK _ _ _ _ _; (refine keep_of (by first | exact List.Sublist.refl _ | exact List.Sublist.cons _ (List.Sublist.refl _) | exact List.Sublist.cons _ (List.Sublist.cons _ (List.Sublist.refl _)) | exact List.Sublist.cons _ (List.Sublist.cons _ (List.Sublist.cons _ (List.Sublist.refl _)))) (by first | exact (fun _ _ h => h) | exact (fun _ _ h => h.1) | exact (fun _ _ h => h.1.1)) ?_)) | (show ownK _ _ _ _ _; (refine own_keep ?_))))
    refine call_inline tabOk Try.func117 rfl rfl rfl Try.call117 rfl (by show 2 ≤ _; decide) ?_
    
    (repeat' ((conv => whnf) <;> first | (show drawK _ 0 _ _ _ _ _ _; (refine draw_tree tabOk mixed [] [] (.alt 0 (.one 1 (.one 2 (.one 3 (.one 4 (.one 5 (.done)))))) (.one 1 (.alt 0 (.one 2 (.one 3 (.one 4 (.one 5 (.done))))) (.one 2 (.alt 0 (.one 3 (.one 4 (.one 5 (.done)))) (.one 3 (.one 0 (.one 4 (.one 5 (.done)))))))))) (by kernel_rfl) (by kernel_rfl) (by kernel_rfl) (List.nil_sublist _) ?_)) | (show keepK _ _ _ _ _; (refine keep_of (List.nil_sublist _) (fun _ _ h => h) ?_)) | (show callK _ 100 _ _ _ _ _; (refine ry_signed (by repeat (first | exact List.mem_cons_self | apply List.mem_cons_of_mem)) h0 hr hbs (fun v hr hbs => ?_))) | (show leK _ _ _; (refine le_of (by rw [ints_length, hm]; exact Nat.le_refl _) ?_)) | (show roomK _ _ _; (refine room_of (by show (m + 1) * 8 ≤ 140737488355328; omega) ?_)) | (show doneK _ _ _ _ _; (refine done_of ?_)) | (show wrapK _ _ _; (refine wrap_nat k (by omega) (by omega) ?_)) | (show Wp _ _ _ _ _ _ _; (refine Wp.go tabOk rfl ?_)) | (show @cmpK _ _ _; (first | refine cmp_yes (by omega) ?_ | refine cmp_no (by omega) ?_ | (refine cmp_both ?_ ?_ <;> intro _))) | (show wrapK _ _ _; (refine wrap_i64 (by omega) (by omega) ?_)) | (show leK _ _ _; (refine le_of (by first | exact Nat.le_refl _ | omega) ?_)) | (show roomK _ _ _; (refine room_of (by first | omega | (dsimp only; omega)) ?_)) | (show ltK _ _ _; (refine lt_of (by omega) ?_)) | (show _ ∧ _; (refine ⟨?_, ?_⟩)) | (show keepK _ _ _ _ _; (refine keep_of (by first | exact List.Sublist.refl _ | exact List.Sublist.cons _ (List.Sublist.refl _) | exact List.Sublist.cons _ (List.Sublist.cons _ (List.Sublist.refl _)) | exact List.Sublist.cons _ (List.Sublist.cons _ (List.Sublist.cons _ (List.Sublist.refl _)))) (by first | exact (fun _ _ h => h) | exact (fun _ _ h => h.1) | exact (fun _ _ h => h.1.1)) ?_)) | (show ownK _ _ _ _ _; (refine own_keep ?_))))
    all_goals (conv => whnf)
    all_goals exact ⟨(k, m + 1, acc ++ [(rdSigned s).1], (rdSigned s).2, _), [(3, some 5)], ⟨hR.next hz, by rw [hm]; simp, by rw [List.length_append, List.length_singleton]; omega, fun x hx' => by
      rcases List.mem_append.1 hx' with h | h
      · exact hf x h
      · simp at h; subst h; exact hx, by assumption, by assumption⟩, Nat.lt_succ_self k, rfl, ⟨rfl, rfl, rfl, trivial⟩, ⟨ints_snoc' _ _ hm, (by repeat (first | exact List.mem_cons_self | apply List.mem_cons_of_mem)), (by repeat (first | exact List.mem_cons_self | apply List.mem_cons_of_mem)), (by repeat (first | exact List.mem_cons_self | apply List.mem_cons_of_mem)), trivial⟩, fun _ _ h => h⟩
  · have hst := hR.stop (by omega)
    (repeat' ((conv => whnf) <;> first | (show doneK _ _ _ _ _; (refine done_of ?_)) | (show drawK _ 0 _ _ _ _ _ _; (refine draw_tree tabOk mixed [5] _ (.take 0 (.take 1 (.one 2 (.one 3 (.one 4 (.one 5 (.done))))))) (by kernel_rfl) (by kernel_rfl) (by kernel_rfl) (List.Sublist.refl _) ?_)) | (show Wp _ _ _ _ _ _ _; (refine Wp.go tabOk rfl ?_)) | (show @cmpK _ _ _; (first | refine cmp_yes (by omega) ?_ | refine cmp_no (by omega) ?_ | (refine cmp_both ?_ ?_ <;> intro _))) | (show wrapK _ _ _; (refine wrap_i64 (by omega) (by omega) ?_)) | (show leK _ _ _; (refine le_of (by first | exact Nat.le_refl _ | omega) ?_)) | (show roomK _ _ _; (refine room_of (by first | omega | (dsimp only; omega)) ?_)) | (show ltK _ _ _; (refine lt_of (by omega) ?_)) | (show _ ∧ _; (refine ⟨?_, ?_⟩)) | (show keepK _ _ _ _ _; (refine keep_of (by first | exact List.Sublist.refl _ | exact List.Sublist.cons _ (List.Sublist.refl _) | exact List.Sublist.cons _ (List.Sublist.cons _ (List.Sublist.refl _)) | exact List.Sublist.cons _ (List.Sublist.cons _ (List.Sublist.cons _ (List.Sublist.refl _)))) (by first | exact (fun _ _ h => h) | exact (fun _ _ h => h.1) | exact (fun _ _ h => h.1.1)) ?_)) | (show ownK _ _ _ _ _; (refine own_keep ?_))))
    all_goals (conv => whnf)
    all_goals exact row_ends hr hbs hst (by repeat (first | exact List.mem_cons_self | apply List.mem_cons_of_mem)) List.mem_cons_self (by decide) hm hf (by omega) (fun _ _ h => h)
end Go.Proofs.Ytajbngkcgbehlaa
