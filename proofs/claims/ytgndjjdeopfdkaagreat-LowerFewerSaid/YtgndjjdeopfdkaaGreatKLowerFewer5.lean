import Derived.Test.YtgndjjdeopfdkaaGreatKLowerFewer4
/- IA -/
namespace Go.Proofs.YtgndjjdeopfdkaaGreat
abbrev dtIA0 : Go.SX.DT := (.take 0 (.take 1 (.take 2 (.take 3 (.take 4 (.alt 5 (.take 6 (.one 7 (.one 8 (.done)))) (.one 7 (.one 5 (.take 6 (.one 8 (.done)))))))))))
abbrev dtIA1 : Go.SX.DT := (.take 0 (.take 1 (.take 2 (.take 3 (.take 4 (.take 5 (.take 7 (.alt 6 (.one 8 (.one 9 (.one 10 (.done)))) (.one 8 (.one 6 (.one 9 (.one 10 (.done)))))))))))))
open Go.SX Go.RowKit
def placeV (n : NodeV) (inV fnV : Value) (c : Int) : Value := .agg #[.int .i64 n.kind, .int .i64 n.a, .int .i64 n.b, n.shape.val, .int .i64 n.lo, .int .i64 n.hi, .int .i64 n.size, n.data.val, n.bias.val, inV, fnV, .int .i64 c]
set_option maxRecDepth 20000 in
theorem at_plain (w : World) (n : NodeV) (sv : ShapesV) (hs : sv.ok w) (i : Nat) (s : IntsV) (hi : sv.l[i]? = some s) (hk : n.kind ≠ 3 ∧ n.kind ≠ 4 ∧ n.kind ≠ 5) : Calls Tryz.prog 50 #[n.valA, sv.val, .int .i64 i] w fun e w' => e = .returned (placeV n (.slice none 0 0) .nilFunc (entries s.xs)) ∧ Ext w w' := by
  obtain ⟨hlt, hsi⟩ := List.getElem?_eq_some_iff.1 hi
  have hfew := hs.few
  obtain ⟨a, ha⟩ : ∃ a, sv.base = some a := base_some (j := i) hs.rows (by rw [shRows_length]; exact hlt)
  have hrow := shRows_get hlt
  rw [hsi] at hrow
  have hss := hs.each s (hsi ▸ List.getElem_mem hlt)
  refine calls_of tab tabOk Tryz.func50 rfl rfl rfl [] (fun _ => ⟨none, 0⟩) [.agg [.c (.int .i64 n.kind), .c (.int .i64 n.a), .c (.int .i64 n.b), .c n.shape.val, .c (.int .i64 n.lo), .c (.int .i64 n.hi), .c (.int .i64 n.size), .c n.data.val, .c n.bias.val], .c sv.val, .c (.int .i64 i)] [] (baseA w) 0 rfl rfl (by show 3 ≤ _; decide) (abs_base w) ?_
  (repeat' ((conv => whnf) <;> first | (show idxK _ _ _ _ _; refine idx_of a i ha rfl hlt ?_) | (show roK _ _ _; (refine ro_row0 (fun R w' h => by rw [← ha]; exact rows_base h hs.rows) _ _ hrow rfl ?_)) | (show callK _ 61 _ _ _ _ _; refine call_pure (f := 61) Tryz.call61 _ (fun ρ w' hw => entries_ints w' s (holds_of_abs hw fun R h => hss.later h)) ?_) | (show drawK _ 1 _ _ _ _ _ _; refine draw_tree tabOk mixed [8] _ dtIA0 (by kernel_rfl) (by kernel_rfl) (by kernel_rfl) (List.Sublist.refl _) ?_) | (show drawK _ 4 _ _ _ _ _ _; refine draw_tree tabOk mixed [8, 10] _ dtIA1 (by kernel_rfl) (by kernel_rfl) (by kernel_rfl) (List.Sublist.refl _) ?_) | (show Wp _ _ _ _ _ _ _; refine Wp.go tabOk rfl ?_) | (show @cmpK _ _ _; (first | refine cmpY ?_ | refine cmpN ?_ | (refine cmp_both ?_ ?_ <;> intro _))) | (show wrapK _ _ _; refine wrapA ?_) | (show leK _ _ _; refine leA ?_) | (show roomK _ _ _; refine roomA ?_) | (show ltK _ _ _; refine ltA ?_) | (show _ ∧ _; refine ⟨?_, ?_⟩) | (show keepK _ _ _ _ _; refine keepA ?_) | refine own_keep ?_ | refine ap_old ?_))
  all_goals (conv => whnf)
  all_goals exact ends_of (fun _ _ h => h) (fun _ => rfl) rfl
theorem mul_bd {x y A B : Int} (hx : -A ≤ x ∧ x ≤ A) (hy : -B ≤ y ∧ y ≤ B) : -(A * B) ≤ x * y ∧ x * y ≤ A * B := by
  have hA : (0 : Int) ≤ A := by omega
  have hB : (0 : Int) ≤ B := by omega
  have h1 : x.natAbs ≤ A.natAbs := by omega
  have h2 : y.natAbs ≤ B.natAbs := by omega
  have h3 := Nat.mul_le_mul h1 h2
  rw [← Int.natAbs_mul, ← Int.natAbs_mul] at h3
  have h4 : 0 ≤ A * B := Int.mul_nonneg hA hB
  omega
theorem div_i64 {x y : Int} {K : Int → Prop} (hy : y ≠ 0) (hx : -4611686018427387904 ≤ x ∧ x ≤ 4611686018427387904) (h : K (x.tdiv y)) : divK .i64 x y K := by
  rw [divK_def]
  refine ⟨hy, ?_⟩
  have h1 : (x.tdiv y).natAbs ≤ x.natAbs := by rw [Int.natAbs_tdiv]; exact Nat.div_le_self _ _
  have h2 : wrapK .i64 (x.tdiv y) K := wrap_i64 (by omega) (by omega) h
  rw [wrapK_def] at h2
  exact h2
def bd20 (x : Int) : Prop := -1048576 ≤ x ∧ x ≤ 1048576
def powI (d : List Int) (v : Int) : Int := d.getD 2 0 * v * v + d.getD 1 0 * v + d.getD 0 0
theorem pow_bd {a b c v : Int} (ha : bd20 a) (hb : bd20 b) (hc : bd20 c) (hv : bd20 v) : (-1099511627776 ≤ a * v ∧ a * v ≤ 1099511627776) ∧ (-1152921504606846976 ≤ a * v * v ∧ a * v * v ≤ 1152921504606846976) ∧ (-1099511627776 ≤ b * v ∧ b * v ≤ 1099511627776) := by
  have h1 := mul_bd (A := 1048576) (B := 1048576) ha hv
  have h2 : -1099511627776 ≤ a * v ∧ a * v ≤ 1099511627776 := h1
  exact ⟨h2, mul_bd (A := 1099511627776) (B := 1048576) h2 hv, mul_bd (A := 1048576) (B := 1048576) hb hv⟩
theorem getD_bd {l : List Int} (h : ∀ x ∈ l, bd20 x) (k : Nat) : bd20 (l.getD k 0) := by
  rcases Nat.lt_or_ge k l.length with hk | hk
  · exact h _ (getD_mem hk)
  · rw [List.getD_eq_getElem?_getD, List.getElem?_eq_none hk]; exact ⟨by decide, by decide⟩
set_option maxRecDepth 20000 in
theorem power_any (w : World) (n : NodeV) (hd : n.data.ok w) (h3 : n.data.xs.length = 3) (hb : ∀ x ∈ n.data.xs, bd20 x) (inV fnV : Value) (c v : Int) (hv : bd20 v) : Calls Tryz.prog 107 #[placeV n inV fnV c, .int .i64 v] w fun e w' => e = .returned (.int .i64 (powI n.data.xs v)) ∧ Ext w w' := by
  obtain ⟨ua, hua⟩ := hd.base (by omega)
  have hur : ∀ (R : Nat → Prop) w', (baseA w).holds R w' → RowsI w' (some ua) 1 (ints n.data.xs) := fun R w' h => by rw [← hua]; exact rows_base h hd.rows
  have p0 := getD_bd hb 0
  have p1 := getD_bd hb 1
  have p2 := getD_bd hb 2
  obtain ⟨q1, q2, q3⟩ := pow_bd p2 p1 p0 hv
  unfold bd20 at p0 p1 p2
  unfold powI
  refine calls_of tab tabOk Tryz.func107 rfl rfl rfl [] (fun _ => ⟨none, 0⟩) [.agg [.c (.int .i64 n.kind), .c (.int .i64 n.a), .c (.int .i64 n.b), .c n.shape.val, .c (.int .i64 n.lo), .c (.int .i64 n.hi), .c (.int .i64 n.size), .c n.data.val, .c n.bias.val, .c inV, .c fnV, .c (.int .i64 c)], .c (.int .i64 v)] [] (baseA w) 0 rfl rfl (by show 2 ≤ _; decide) (abs_base w) ?_
  (repeat' ((conv => whnf) <;> first | (show idxK _ _ _ _ _; refine idx_of _ 0 hua rfl (by omega) ?_) | (show roK _ _ _; refine ro_int hur (j := 0) (by omega) ?_) | (show idxK _ _ _ _ _; refine idx_of _ 1 hua rfl (by omega) ?_) | (show roK _ _ _; refine ro_int hur (j := 1) (by omega) ?_) | (show idxK _ _ _ _ _; refine idx_of _ 2 hua rfl (by omega) ?_) | (show roK _ _ _; refine ro_int hur (j := 2) (by omega) ?_) | (show drawK _ _ _ _ _ _ _ _; refine draw_quiet tabOk mixed (by kernel_rfl) ?_) | (show Wp _ _ _ _ _ _ _; refine Wp.go tabOk rfl ?_) | (show @cmpK _ _ _; (first | refine cmpY ?_ | refine cmpN ?_ | (refine cmp_both ?_ ?_ <;> intro _))) | (show wrapK _ _ _; refine wrapA ?_) | (show leK _ _ _; refine leA ?_) | (show roomK _ _ _; refine roomA ?_) | (show ltK _ _ _; refine ltA ?_) | (show _ ∧ _; refine ⟨?_, ?_⟩) | (show keepK _ _ _ _ _; refine keepA ?_) | refine own_keep ?_ | refine ap_old ?_))
  conv => whnf
  exact ends_of (fun _ _ h => h) (fun _ => rfl) rfl
end Go.Proofs.YtgndjjdeopfdkaaGreat

/- IB -/
namespace Go.Proofs.YtgndjjdeopfdkaaGreat
abbrev dtIB0 : Go.SX.DT := (.take 0 (.take 1 (.take 2 (.take 3 (.take 4 (.take 5 (.take 6 (.take 7 (.take 8 (.take 9 (.take 10 (.take 11 (.take 12 (.take 13 (.take 14 (.take 15 (.one 16 (.take 17 (.done)))))))))))))))))))
abbrev dtIB1 : Go.SX.DT := (.take 0 (.take 1 (.take 2 (.take 4 (.take 5 (.take 6 (.one 3 (.one 7 (.one 8 (.take 9 (.done)))))))))))
open Go.SX Go.RowKit
theorem ints_snocI (xs : List Int) (x : Int) {i n : Nat} {T : TypeId} {H : Heap} (hn : n = xs.length) : (i, Ent.rows (ints (xs ++ [x])) 1 T) ∈ (i, Ent.rows (List.take n (ints xs) ++ [[.int .i64 x]]) 1 T) :: H := by
  subst hn; exact ints_snoc xs x
abbrev Sp := Int × Int
def spanV (s : Sp) : Value := .agg #[.int .i64 s.1, .int .i64 s.2]
def ptsL : Nat → Int → List Int
  | 0, _ => []
  | n + 1, v => v :: ptsL n (v + 1)
def turnI (d : List Int) : Int := (0 - d.getD 1 0).tdiv (2 * d.getD 2 0)
def loI (d : List Int) (a : Sp) : Int := max a.1 (turnI d - 1)
def hiI (d : List Int) (a : Sp) : Int := min a.2 (turnI d + 1)
/-- numbers among which a span's ends are, of a node that is not linear over weights -/
def endsL (n : NodeV) (a b : Sp) : List Int :=
  if n.kind = 1 then [n.lo, n.hi]
  else if n.kind = 2 then n.data.xs
  else if n.kind = 6 then [a.1 + b.1, a.2 + b.2]
  else if n.kind = 7 then [n.data.xs.getD 0 0 * a.1, n.data.xs.getD 0 0 * a.2]
  else if n.kind = 8 then (if n.data.xs.getD 2 0 = 0 then [powI n.data.xs a.1, powI n.data.xs a.2] else [powI n.data.xs a.1, powI n.data.xs a.2] ++ (ptsL (hiI n.data.xs a - loI n.data.xs a + 1).toNat (loI n.data.xs a)).map (powI n.data.xs))
  else [a.1, a.2]
def oldA (x : IntsV × Bool) : Asn where
  holds R w := x.2 = false → (intsA x.1).holds R w
  stable := fun hR hw h e => (intsA x.1).stable hR hw (h e)
def EndsPost (w : World) (n : NodeV) (l : List Int) (e : Ending) (w' : World) : Prop :=
  ∃ x : IntsV × Bool, (x.1.xs = l ∧ x.1.sane ∧ (x.2 = true → x.1 = n.data)) ∧ e = .returned x.1.val ∧ Ext w w' ∧ (oldA x).holds (fun b => w.heap.size ≤ b ∧ b < w'.heap.size) w'
theorem eends_old {B : Base} {H : Heap} {S : Asn} {nx : Nat} {w : World} {n : NodeV} {l : List Int} (hb : ∀ R w', S.holds R w' → (baseA B.w0).holds R w') (hw0 : B.w0 = w) (hs : n.data.sane) (hl : n.data.xs = l) : finK B (.c n.data.val) H S nx (EndsPost w n l) := by
  subst hw0
  exact fin_of fun ρ w' hw => ⟨(n.data, true), ⟨hl, hs, fun _ => rfl⟩, rfl, ext_of_abs hw hb, fun h => by cases h⟩
theorem eends_new {B : Base} {i m : Nat} {H : Heap} {S : Asn} {nx : Nat} {w : World} {n : NodeV} {l : List Int} (hb : ∀ R w', S.holds R w' → (baseA B.w0).holds R w') (hw0 : B.w0 = w) (he : (i, Ent.rows (ints l) 1 3) ∈ H) (hm : m = l.length) (hf : ∀ x ∈ l, i64 x) (hl : l.length ≤ 1000000) : finK B (.os i m) H S nx (EndsPost w n l) := by
  subst hw0 hm
  refine fin_of fun ρ w' hw => ?_
  have hn := new_of_abs hw hb he
  rw [ints_length] at hn
  obtain ⟨u, e1, e2, e3, e4⟩ := newInts hn hf hl
  exact ⟨(u, false), ⟨e2, e3, fun h => by cases h⟩, by rw [e1], ext_of_abs hw hb, fun _ => e4⟩
/-- what is asked of a node for its ends -/
structure EndsOk (n : NodeV) (a b : Sp) : Prop where
  kind : n.kind = 1 ∨ n.kind = 2 ∨ n.kind = 6 ∨ n.kind = 7 ∨ n.kind = 8 ∨ n.kind = 9
  data : ∀ x ∈ n.data.xs, bd20 x
  scale : n.kind = 7 → n.data.xs.length = 1
  power : n.kind = 8 → n.data.xs.length = 3
  lo : bd20 n.lo
  hi : bd20 n.hi
  a1 : bd20 a.1
  a2 : bd20 a.2
  b1 : bd20 b.1
  b2 : bd20 b.2
theorem two_i64 {x y : Int} (hx : -4611686018427387904 ≤ x ∧ x ≤ 4611686018427387904) (hy : -4611686018427387904 ≤ y ∧ y ≤ 4611686018427387904) : ∀ z ∈ [x, y], i64 z := fun z hz => by
  simp only [List.mem_cons, List.not_mem_nil, or_false] at hz
  unfold i64
  rcases hz with rfl | rfl <;> omega
theorem powI_bd {d : List Int} {v : Int} (hd : ∀ x ∈ d, bd20 x) (hv : bd20 v) : -4611686018427387904 ≤ powI d v ∧ powI d v ≤ 4611686018427387904 := by
  obtain ⟨q1, q2, q3⟩ := pow_bd (getD_bd hd 2) (getD_bd hd 1) (getD_bd hd 0) hv
  have := getD_bd hd 0
  unfold bd20 at this
  unfold powI
  omega
set_option maxRecDepth 20000 in
theorem ends_plain (w : World) (n : NodeV) (hd : n.data.ok w) (inV fnV : Value) (c : Int) (a b : Sp) (h : EndsOk n a b) : Calls Tryz.prog 51 #[placeV n inV fnV c, spanV a, spanV b] w (EndsPost w n (endsL n a b)) := by
  obtain ⟨hk, hb, hsc, hpo, hlo, hhi, ha1, ha2, hb1, hb2⟩ := h
  unfold bd20 at ha1 ha2 hb1 hb2 hlo hhi
  rcases hk with hk | hk | hk | hk | hk | hk
  · have hL : endsL n a b = [n.lo, n.hi] := if_pos hk
    rw [hL]
    refine calls_of tab tabOk Tryz.func51 rfl rfl rfl [] (fun _ => ⟨none, 0⟩) [.agg [.c (.int .i64 n.kind), .c (.int .i64 n.a), .c (.int .i64 n.b), .c n.shape.val, .c (.int .i64 n.lo), .c (.int .i64 n.hi), .c (.int .i64 n.size), .c n.data.val, .c n.bias.val, .c inV, .c fnV, .c (.int .i64 c)], .agg [.c (.int .i64 a.1), .c (.int .i64 a.2)], .agg [.c (.int .i64 b.1), .c (.int .i64 b.2)]] [] (baseA w) 0 rfl rfl (by show 3 ≤ _; decide) (abs_base w) ?_
    (repeat' ((conv => whnf) <;> first | (show drawK _ 9 _ _ _ _ _ _; refine draw_tree tabOk mixed [] _ dtIB0 (by kernel_rfl) (by kernel_rfl) (by kernel_rfl) (List.Sublist.refl _) ?_) | (show drawK _ 11 _ _ _ _ _ _; refine draw_tree tabOk mixed [] _ dtIB1 (by kernel_rfl) (by kernel_rfl) (by kernel_rfl) (List.Sublist.refl _) ?_) | (show drawK _ _ _ _ _ _ _ _; refine draw_quiet tabOk mixed (by kernel_rfl) ?_) | (show Wp _ _ _ _ _ _ _; refine Wp.go tabOk rfl ?_) | (show @cmpK _ _ _; (first | refine cmpY ?_ | refine cmpN ?_ | (refine cmp_both ?_ ?_ <;> intro _))) | (show wrapK _ _ _; refine wrapA ?_) | (show leK _ _ _; refine leA ?_) | (show roomK _ _ _; refine roomA ?_) | (show ltK _ _ _; refine ltA ?_) | (show _ ∧ _; refine ⟨?_, ?_⟩) | (show keepK _ _ _ _ _; refine keepA ?_) | refine own_keep ?_ | refine ap_old ?_))
    conv => whnf
    exact eends_new (fun _ _ h => h) rfl (by repeat (first | exact List.mem_cons_self | apply List.mem_cons_of_mem)) rfl (two_i64 (by omega) (by omega)) (by simp)
  · have hL : endsL n a b = n.data.xs := by unfold endsL; rw [if_neg (by omega), if_pos hk]
    rw [hL]
    refine calls_of tab tabOk Tryz.func51 rfl rfl rfl [] (fun _ => ⟨none, 0⟩) [.agg [.c (.int .i64 n.kind), .c (.int .i64 n.a), .c (.int .i64 n.b), .c n.shape.val, .c (.int .i64 n.lo), .c (.int .i64 n.hi), .c (.int .i64 n.size), .c n.data.val, .c n.bias.val, .c inV, .c fnV, .c (.int .i64 c)], .agg [.c (.int .i64 a.1), .c (.int .i64 a.2)], .agg [.c (.int .i64 b.1), .c (.int .i64 b.2)]] [] (baseA w) 0 rfl rfl (by show 3 ≤ _; decide) (abs_base w) ?_
    (repeat' ((conv => whnf) <;> first | (show drawK _ 9 _ _ _ _ _ _; refine draw_tree tabOk mixed [] _ dtIB0 (by kernel_rfl) (by kernel_rfl) (by kernel_rfl) (List.Sublist.refl _) ?_) | (show drawK _ 11 _ _ _ _ _ _; refine draw_tree tabOk mixed [] _ dtIB1 (by kernel_rfl) (by kernel_rfl) (by kernel_rfl) (List.Sublist.refl _) ?_) | (show drawK _ _ _ _ _ _ _ _; refine draw_quiet tabOk mixed (by kernel_rfl) ?_) | (show Wp _ _ _ _ _ _ _; refine Wp.go tabOk rfl ?_) | (show @cmpK _ _ _; (first | refine cmpY ?_ | refine cmpN ?_ | (refine cmp_both ?_ ?_ <;> intro _))) | (show wrapK _ _ _; refine wrapA ?_) | (show leK _ _ _; refine leA ?_) | (show roomK _ _ _; refine roomA ?_) | (show ltK _ _ _; refine ltA ?_) | (show _ ∧ _; refine ⟨?_, ?_⟩) | (show keepK _ _ _ _ _; refine keepA ?_) | refine own_keep ?_ | refine ap_old ?_))
    conv => whnf
    exact eends_old (fun _ _ h => h) rfl hd.sane rfl
  · have hL : endsL n a b = [a.1 + b.1, a.2 + b.2] := by unfold endsL; rw [if_neg (by omega), if_neg (by omega), if_pos hk]
    rw [hL]
    refine calls_of tab tabOk Tryz.func51 rfl rfl rfl [] (fun _ => ⟨none, 0⟩) [.agg [.c (.int .i64 n.kind), .c (.int .i64 n.a), .c (.int .i64 n.b), .c n.shape.val, .c (.int .i64 n.lo), .c (.int .i64 n.hi), .c (.int .i64 n.size), .c n.data.val, .c n.bias.val, .c inV, .c fnV, .c (.int .i64 c)], .agg [.c (.int .i64 a.1), .c (.int .i64 a.2)], .agg [.c (.int .i64 b.1), .c (.int .i64 b.2)]] [] (baseA w) 0 rfl rfl (by show 3 ≤ _; decide) (abs_base w) ?_
    (repeat' ((conv => whnf) <;> first | (show drawK _ 9 _ _ _ _ _ _; refine draw_tree tabOk mixed [] _ dtIB0 (by kernel_rfl) (by kernel_rfl) (by kernel_rfl) (List.Sublist.refl _) ?_) | (show drawK _ 11 _ _ _ _ _ _; refine draw_tree tabOk mixed [] _ dtIB1 (by kernel_rfl) (by kernel_rfl) (by kernel_rfl) (List.Sublist.refl _) ?_) | (show drawK _ _ _ _ _ _ _ _; refine draw_quiet tabOk mixed (by kernel_rfl) ?_) | (show Wp _ _ _ _ _ _ _; refine Wp.go tabOk rfl ?_) | (show @cmpK _ _ _; (first | refine cmpY ?_ | refine cmpN ?_ | (refine cmp_both ?_ ?_ <;> intro _))) | (show wrapK _ _ _; refine wrapA ?_) | (show leK _ _ _; refine leA ?_) | (show roomK _ _ _; refine roomA ?_) | (show ltK _ _ _; refine ltA ?_) | (show _ ∧ _; refine ⟨?_, ?_⟩) | (show keepK _ _ _ _ _; refine keepA ?_) | refine own_keep ?_ | refine ap_old ?_))
    conv => whnf
    exact eends_new (fun _ _ h => h) rfl (by repeat (first | exact List.mem_cons_self | apply List.mem_cons_of_mem)) rfl (two_i64 (by omega) (by omega)) (by simp)
  · have hL : endsL n a b = [n.data.xs.getD 0 0 * a.1, n.data.xs.getD 0 0 * a.2] := by unfold endsL; rw [if_neg (by omega), if_neg (by omega), if_neg (by omega), if_pos hk]
    rw [hL]
    have hl1 := hsc hk
    obtain ⟨ua, hua⟩ := hd.base (by omega)
    have hur : ∀ (R : Nat → Prop) w', (baseA w).holds R w' → RowsI w' (some ua) 1 (ints n.data.xs) := fun R w' h => by rw [← hua]; exact rows_base h hd.rows
    have q1 := mul_bd (A := 1048576) (B := 1048576) (getD_bd hb 0) ha1
    have q2 := mul_bd (A := 1048576) (B := 1048576) (getD_bd hb 0) ha2
    refine calls_of tab tabOk Tryz.func51 rfl rfl rfl [] (fun _ => ⟨none, 0⟩) [.agg [.c (.int .i64 n.kind), .c (.int .i64 n.a), .c (.int .i64 n.b), .c n.shape.val, .c (.int .i64 n.lo), .c (.int .i64 n.hi), .c (.int .i64 n.size), .c n.data.val, .c n.bias.val, .c inV, .c fnV, .c (.int .i64 c)], .agg [.c (.int .i64 a.1), .c (.int .i64 a.2)], .agg [.c (.int .i64 b.1), .c (.int .i64 b.2)]] [] (baseA w) 0 rfl rfl (by show 3 ≤ _; decide) (abs_base w) ?_
    (repeat' ((conv => whnf) <;> first | (show idxK _ _ _ _ _; refine idx_of _ 0 hua rfl (by omega) ?_) | (show roK _ _ _; refine ro_int hur (j := 0) (by omega) ?_) | (show drawK _ 9 _ _ _ _ _ _; refine draw_tree tabOk mixed [] _ dtIB0 (by kernel_rfl) (by kernel_rfl) (by kernel_rfl) (List.Sublist.refl _) ?_) | (show drawK _ 11 _ _ _ _ _ _; refine draw_tree tabOk mixed [] _ dtIB1 (by kernel_rfl) (by kernel_rfl) (by kernel_rfl) (List.Sublist.refl _) ?_) | (show drawK _ _ _ _ _ _ _ _; refine draw_quiet tabOk mixed (by kernel_rfl) ?_) | (show Wp _ _ _ _ _ _ _; refine Wp.go tabOk rfl ?_) | (show @cmpK _ _ _; (first | refine cmpY ?_ | refine cmpN ?_ | (refine cmp_both ?_ ?_ <;> intro _))) | (show wrapK _ _ _; refine wrapA ?_) | (show leK _ _ _; refine leA ?_) | (show roomK _ _ _; refine roomA ?_) | (show ltK _ _ _; refine ltA ?_) | (show _ ∧ _; refine ⟨?_, ?_⟩) | (show keepK _ _ _ _ _; refine keepA ?_) | refine own_keep ?_ | refine ap_old ?_))
    conv => whnf
    exact eends_new (fun _ _ h => h) rfl (by repeat (first | exact List.mem_cons_self | apply List.mem_cons_of_mem)) rfl (two_i64 (by omega) (by omega)) (by simp)
  · have hl3 := hpo hk
    obtain ⟨ua, hua⟩ := hd.base (by omega)
    have hur : ∀ (R : Nat → Prop) w', (baseA w).holds R w' → RowsI w' (some ua) 1 (ints n.data.xs) := fun R w' h => by rw [← hua]; exact rows_base h hd.rows
    have p1 := getD_bd hb 1
    have p2 := getD_bd hb 2
    unfold bd20 at p1 p2
    have i1 := powI_bd hb (v := a.1) (by unfold bd20; omega)
    have i2 := powI_bd hb (v := a.2) (by unfold bd20; omega)
    refine calls_of tab tabOk Tryz.func51 rfl rfl rfl [] (fun _ => ⟨none, 0⟩) [.agg [.c (.int .i64 n.kind), .c (.int .i64 n.a), .c (.int .i64 n.b), .c n.shape.val, .c (.int .i64 n.lo), .c (.int .i64 n.hi), .c (.int .i64 n.size), .c n.data.val, .c n.bias.val, .c inV, .c fnV, .c (.int .i64 c)], .agg [.c (.int .i64 a.1), .c (.int .i64 a.2)], .agg [.c (.int .i64 b.1), .c (.int .i64 b.2)]] [] (baseA w) 0 rfl rfl (by show 3 ≤ _; decide) (abs_base w) ?_
    by_cases hz : n.data.xs.getD 2 0 = 0
    · have hL : endsL n a b = [powI n.data.xs a.1, powI n.data.xs a.2] := by unfold endsL; rw [if_neg (by omega), if_neg (by omega), if_neg (by omega), if_neg (by omega), if_pos hk, if_pos hz]
      rw [hL]
      (repeat' ((conv => whnf) <;> first | (show idxK _ _ _ _ _; refine idx_of _ 2 hua rfl (by omega) ?_) | (show roK _ _ _; refine ro_int hur (j := 2) (by omega) ?_) | ((show callK _ 107 [_, .c (.int .i64 a.1)] _ _ _ _); refine call_pure (f := 107) Tryz.call107 (.int .i64 (powI n.data.xs a.1)) (fun ρ w' hw => power_any w' n (holds_of_abs hw fun R h => hd.later h) hl3 hb inV fnV c a.1 (by unfold bd20; omega)) ?_) | ((show callK _ 107 [_, .c (.int .i64 a.2)] _ _ _ _); refine call_pure (f := 107) Tryz.call107 (.int .i64 (powI n.data.xs a.2)) (fun ρ w' hw => power_any w' n (holds_of_abs hw fun R h => hd.later h) hl3 hb inV fnV c a.2 (by unfold bd20; omega)) ?_) | (show drawK _ 9 _ _ _ _ _ _; refine draw_tree tabOk mixed [] _ dtIB0 (by kernel_rfl) (by kernel_rfl) (by kernel_rfl) (List.Sublist.refl _) ?_) | (show drawK _ 11 _ _ _ _ _ _; refine draw_tree tabOk mixed [] _ dtIB1 (by kernel_rfl) (by kernel_rfl) (by kernel_rfl) (List.Sublist.refl _) ?_) | (show drawK _ _ _ _ _ _ _ _; refine draw_quiet tabOk mixed (by kernel_rfl) ?_) | (show Wp _ _ _ _ _ _ _; refine Wp.go tabOk rfl ?_) | (show @cmpK _ _ _; (first | refine cmpY ?_ | refine cmpN ?_ | (refine cmp_both ?_ ?_ <;> intro _))) | (show wrapK _ _ _; refine wrapA ?_) | (show leK _ _ _; refine leA ?_) | (show roomK _ _ _; refine roomA ?_) | (show ltK _ _ _; refine ltA ?_) | (show _ ∧ _; refine ⟨?_, ?_⟩) | (show keepK _ _ _ _ _; refine keepA ?_) | refine own_keep ?_ | refine ap_old ?_))
      conv => whnf
      exact eends_new (fun _ _ h => h) rfl (by repeat (first | exact List.mem_cons_self | apply List.mem_cons_of_mem)) rfl (two_i64 (by omega) (by omega)) (by simp)
    · have hT : -1048576 ≤ (0 - n.data.xs.getD 1 0).tdiv (2 * n.data.xs.getD 2 0) ∧ (0 - n.data.xs.getD 1 0).tdiv (2 * n.data.xs.getD 2 0) ≤ 1048576 := by
        have h1 : ((0 - n.data.xs.getD 1 0).tdiv (2 * n.data.xs.getD 2 0)).natAbs ≤ (0 - n.data.xs.getD 1 0).natAbs := by rw [Int.natAbs_tdiv]; exact Nat.div_le_self _ _
        omega
      (repeat' ((conv => whnf) <;> first | (show idxK _ _ _ _ _; refine idx_of _ 1 hua rfl (by omega) ?_) | (show roK _ _ _; refine ro_int hur (j := 1) (by omega) ?_) | (show idxK _ _ _ _ _; refine idx_of _ 2 hua rfl (by omega) ?_) | (show roK _ _ _; refine ro_int hur (j := 2) (by omega) ?_) | ((show callK _ 107 [_, .c (.int .i64 a.1)] _ _ _ _); refine call_pure (f := 107) Tryz.call107 (.int .i64 (powI n.data.xs a.1)) (fun ρ w' hw => power_any w' n (holds_of_abs hw fun R h => hd.later h) hl3 hb inV fnV c a.1 (by unfold bd20; omega)) ?_) | ((show callK _ 107 [_, .c (.int .i64 a.2)] _ _ _ _); refine call_pure (f := 107) Tryz.call107 (.int .i64 (powI n.data.xs a.2)) (fun ρ w' hw => power_any w' n (holds_of_abs hw fun R h => hd.later h) hl3 hb inV fnV c a.2 (by unfold bd20; omega)) ?_) | (show divK _ _ _ _; refine div_i64 (by omega) (by omega) ?_) | (show drawK _ 9 _ _ _ _ _ _; refine draw_tree tabOk mixed [] _ dtIB0 (by kernel_rfl) (by kernel_rfl) (by kernel_rfl) (List.Sublist.refl _) ?_) | (show drawK _ 11 _ _ _ _ _ _; refine draw_tree tabOk mixed [] _ dtIB1 (by kernel_rfl) (by kernel_rfl) (by kernel_rfl) (List.Sublist.refl _) ?_) | (show drawK _ _ _ _ _ _ _ _; refine draw_quiet tabOk mixed (by kernel_rfl) ?_) | (show Wp _ _ _ _ _ _ _; refine Wp.go tabOk rfl ?_) | (show @cmpK _ _ _; (first | refine cmpY ?_ | refine cmpN ?_ | (refine cmp_both ?_ ?_ <;> intro _))) | (show wrapK _ _ _; refine wrapA ?_) | (show leK _ _ _; refine leA ?_) | (show roomK _ _ _; refine roomA ?_) | (show ltK _ _ _; refine ltA ?_) | (show _ ∧ _; refine ⟨?_, ?_⟩) | (show keepK _ _ _ _ _; refine keepA ?_) | refine own_keep ?_ | refine ap_old ?_))
      all_goals
        have hL : endsL n a b = [powI n.data.xs a.1, powI n.data.xs a.2] ++ (ptsL (hiI n.data.xs a - loI n.data.xs a + 1).toNat (loI n.data.xs a)).map (powI n.data.xs) := by unfold endsL; rw [if_neg (by omega), if_neg (by omega), if_neg (by omega), if_neg (by omega), if_pos hk, if_neg hz]
        rw [hL]
        have hlo' : loI n.data.xs a = max a.1 ((0 - n.data.xs.getD 1 0).tdiv (2 * n.data.xs.getD 2 0) - 1) := rfl
        have hhi' : hiI n.data.xs a = min a.2 ((0 - n.data.xs.getD 1 0).tdiv (2 * n.data.xs.getD 2 0) + 1) := rfl
        generalize hT0 : (0 - n.data.xs.getD 1 0).tdiv (2 * n.data.xs.getD 2 0) = T at *
        generalize hloE : loI n.data.xs a = L0 at *
        generalize hhiE : hiI n.data.xs a = H0 at *
        refine Wp.loop (σ := Int × Nat × List Int) 5 (fun ⟨v, m, _⟩ => [(10, .c (.int .i64 v)), (9, .c (.int .i64 T)), (7, .os 4 m), (3, .lp 0 0 0 0), (4, .lp 1 0 0 0)]) (fun ⟨_, _, acc⟩ => [(4, .rows (ints acc) 1 3), (1, .box [.c (.int .i64 a.1), .c (.int .i64 a.2)] 58), (0, .box [.c (.int .i64 n.kind), .c (.int .i64 n.a), .c (.int .i64 n.b), .c n.shape.val, .c (.int .i64 n.lo), .c (.int .i64 n.hi), .c (.int .i64 n.size), .c n.data.val, .c n.bias.val, .c inV, .c fnV, .c (.int .i64 c)] 104)]) (fun _ => baseA w)
          (fun ⟨v, m, acc⟩ => acc ++ (ptsL (H0 - v + 1).toNat v).map (powI n.data.xs) = [powI n.data.xs a.1, powI n.data.xs a.2] ++ (ptsL (H0 - L0 + 1).toNat L0).map (powI n.data.xs) ∧ m = acc.length ∧ L0 ≤ v ∧ v ≤ 1048580 ∧ acc.length + (H0 - v + 1).toNat ≤ 5 ∧ (∀ x ∈ acc, i64 x)) (fun s => (H0 - s.1 + 1).toNat) (_, 2, [powI n.data.xs a.1, powI n.data.xs a.2]) [(4, some 3)] (by decide) (fun s => ⟨rfl, rfl⟩)
          ⟨by congr 4 <;> omega, rfl, by omega, by omega, by simp only [List.length_cons, List.length_nil]; omega, two_i64 (by omega) (by omega)⟩ ⟨rfl, ⟨rfl, rfl, rfl, rfl, rfl, trivial⟩, ⟨(by repeat (first | exact List.mem_cons_self | apply List.mem_cons_of_mem)), (by repeat (first | exact List.mem_cons_self | apply List.mem_cons_of_mem)), (by repeat (first | exact List.mem_cons_self | apply List.mem_cons_of_mem)), trivial⟩, fun _ _ h => h⟩ ?_
        rintro ⟨v, m, acc⟩ ⟨hacc, hm, hv0, hv1, hcnt, hf⟩
        by_cases hgo : v ≤ H0
        · have iv := powI_bd hb (v := v) (by unfold bd20; omega)
          have hstep : ptsL (H0 - v + 1).toNat v = v :: ptsL (H0 - (v + 1) + 1).toNat (v + 1) := by
            have : (H0 - v + 1).toNat = (H0 - (v + 1) + 1).toNat + 1 := by omega
            rw [this]; rfl
          (repeat' ((conv => whnf) <;> first | ((show callK _ 107 _ _ _ _ _); refine call_pure (f := 107) Tryz.call107 (.int .i64 (powI n.data.xs v)) (fun ρ w' hw => power_any w' n (holds_of_abs hw fun R h => hd.later h) hl3 hb inV fnV c v (by unfold bd20; omega)) ?_) | (show leK _ _ _; (refine le_of (by rw [ints_length, hm]; exact Nat.le_refl _) ?_)) | (show roomK _ _ _; (refine room_of (by show (m + 1) * 8 ≤ 140737488355328; omega) ?_)) | (show drawK _ 9 _ _ _ _ _ _; refine draw_tree tabOk mixed [] _ dtIB0 (by kernel_rfl) (by kernel_rfl) (by kernel_rfl) (List.Sublist.refl _) ?_) | (show drawK _ 11 _ _ _ _ _ _; refine draw_tree tabOk mixed [] _ dtIB1 (by kernel_rfl) (by kernel_rfl) (by kernel_rfl) (List.Sublist.refl _) ?_) | (show drawK _ _ _ _ _ _ _ _; refine draw_quiet tabOk mixed (by kernel_rfl) ?_) | (show Wp _ _ _ _ _ _ _; refine Wp.go tabOk rfl ?_) | (show @cmpK _ _ _; (first | refine cmpY ?_ | refine cmpN ?_ | (refine cmp_both ?_ ?_ <;> intro _))) | (show wrapK _ _ _; refine wrapA ?_) | (show leK _ _ _; refine leA ?_) | (show roomK _ _ _; refine roomA ?_) | (show ltK _ _ _; refine ltA ?_) | (show _ ∧ _; refine ⟨?_, ?_⟩) | (show keepK _ _ _ _ _; refine keepA ?_) | refine own_keep ?_ | refine ap_old ?_))
          all_goals (conv => whnf)
          all_goals exact ⟨(v + 1, m + 1, acc ++ [powI n.data.xs v]), [(4, some 6)], ⟨by rw [← hacc, hstep]; simp, by rw [hm]; simp, by omega, by omega, by rw [List.length_append, List.length_singleton]; omega, fun x hx => by
            rcases List.mem_append.1 hx with h | h
            · exact hf x h
            · simp at h; subst h; unfold i64; omega⟩, by simp only; omega, rfl, ⟨rfl, rfl, rfl, rfl, rfl, trivial⟩, ⟨ints_snocI _ _ hm, (by repeat (first | exact List.mem_cons_self | apply List.mem_cons_of_mem)), (by repeat (first | exact List.mem_cons_self | apply List.mem_cons_of_mem)), trivial⟩, fun _ _ h => h⟩
        · have hz0 : (H0 - v + 1).toNat = 0 := by omega
          rw [hz0] at hacc
          simp only [ptsL, List.map_nil, List.append_nil] at hacc
          (repeat' ((conv => whnf) <;> first | (show drawK _ 9 _ _ _ _ _ _; refine draw_tree tabOk mixed [] _ dtIB0 (by kernel_rfl) (by kernel_rfl) (by kernel_rfl) (List.Sublist.refl _) ?_) | (show drawK _ 11 _ _ _ _ _ _; refine draw_tree tabOk mixed [] _ dtIB1 (by kernel_rfl) (by kernel_rfl) (by kernel_rfl) (List.Sublist.refl _) ?_) | (show drawK _ _ _ _ _ _ _ _; refine draw_quiet tabOk mixed (by kernel_rfl) ?_) | (show Wp _ _ _ _ _ _ _; refine Wp.go tabOk rfl ?_) | (show @cmpK _ _ _; (first | refine cmpY ?_ | refine cmpN ?_ | (refine cmp_both ?_ ?_ <;> intro _))) | (show wrapK _ _ _; refine wrapA ?_) | (show leK _ _ _; refine leA ?_) | (show roomK _ _ _; refine roomA ?_) | (show ltK _ _ _; refine ltA ?_) | (show _ ∧ _; refine ⟨?_, ?_⟩) | (show keepK _ _ _ _ _; refine keepA ?_) | refine own_keep ?_ | refine ap_old ?_))
          all_goals (conv => whnf)
          all_goals (rw [← hacc]; exact eends_new (fun _ _ h => h) rfl (by repeat (first | exact List.mem_cons_self | apply List.mem_cons_of_mem)) hm hf (by omega))
  · have hL : endsL n a b = [a.1, a.2] := by unfold endsL; rw [if_neg (by omega), if_neg (by omega), if_neg (by omega), if_neg (by omega), if_neg (by omega)]
    rw [hL]
    refine calls_of tab tabOk Tryz.func51 rfl rfl rfl [] (fun _ => ⟨none, 0⟩) [.agg [.c (.int .i64 n.kind), .c (.int .i64 n.a), .c (.int .i64 n.b), .c n.shape.val, .c (.int .i64 n.lo), .c (.int .i64 n.hi), .c (.int .i64 n.size), .c n.data.val, .c n.bias.val, .c inV, .c fnV, .c (.int .i64 c)], .agg [.c (.int .i64 a.1), .c (.int .i64 a.2)], .agg [.c (.int .i64 b.1), .c (.int .i64 b.2)]] [] (baseA w) 0 rfl rfl (by show 3 ≤ _; decide) (abs_base w) ?_
    (repeat' ((conv => whnf) <;> first | (show drawK _ 9 _ _ _ _ _ _; refine draw_tree tabOk mixed [] _ dtIB0 (by kernel_rfl) (by kernel_rfl) (by kernel_rfl) (List.Sublist.refl _) ?_) | (show drawK _ 11 _ _ _ _ _ _; refine draw_tree tabOk mixed [] _ dtIB1 (by kernel_rfl) (by kernel_rfl) (by kernel_rfl) (List.Sublist.refl _) ?_) | (show drawK _ _ _ _ _ _ _ _; refine draw_quiet tabOk mixed (by kernel_rfl) ?_) | (show Wp _ _ _ _ _ _ _; refine Wp.go tabOk rfl ?_) | (show @cmpK _ _ _; (first | refine cmpY ?_ | refine cmpN ?_ | (refine cmp_both ?_ ?_ <;> intro _))) | (show wrapK _ _ _; refine wrapA ?_) | (show leK _ _ _; refine leA ?_) | (show roomK _ _ _; refine roomA ?_) | (show ltK _ _ _; refine ltA ?_) | (show _ ∧ _; refine ⟨?_, ?_⟩) | (show keepK _ _ _ _ _; refine keepA ?_) | refine own_keep ?_ | refine ap_old ?_))
    conv => whnf
    exact eends_new (fun _ _ h => h) rfl (by repeat (first | exact List.mem_cons_self | apply List.mem_cons_of_mem)) rfl (two_i64 (by omega) (by omega)) (by simp)
end Go.Proofs.YtgndjjdeopfdkaaGreat

/- IC -/
namespace Go.Proofs.YtgndjjdeopfdkaaGreat
open Go.SX Go.RowKit
structure NodeIn (n : NodeV) (sh : List (List Int)) (s : List Int) : Prop where
  form : formB n sh.length = true
  shape : shapeO n sh = some s
  near : nearB n = true
theorem checkR_in : ∀ {l : List NodeV} {sh0 sh : List (List Int)}, checkR l sh0 = (0, sh) → ∃ q, sh = sh0 ++ q ∧ q.length = l.length ∧ ∀ i n, l[i]? = some n → ∃ s, q[i]? = some s ∧ NodeIn n (sh0 ++ q.take i) s
  | [], sh0, sh, h => by
    obtain rfl : sh0 = sh := by simpa [checkR] using h
    exact ⟨[], by simp, rfl, fun i n hn => by simp at hn⟩
  | m :: r, sh0, sh, h => by
    by_cases hf : formB m sh0.length = false
    · rw [checkR_form hf] at h; simp at h
    have hf : formB m sh0.length = true := by simpa using hf
    cases hs : shapeO m sh0 with
    | none => rw [checkR_shape hf hs] at h; simp at h
    | some s =>
      by_cases hn : nearB m = false
      · rw [checkR_near hf hs hn] at h; simp at h
      have hn : nearB m = true := by simpa using hn
      rw [checkR_next hf hs hn] at h
      obtain ⟨q, hq, hl, ha⟩ := checkR_in h
      refine ⟨s :: q, by rw [hq, List.append_assoc]; rfl, by simp [hl], fun i n hin => ?_⟩
      cases i with
      | zero =>
        simp only [List.getElem?_cons_zero, Option.some.injEq] at hin
        subst hin
        exact ⟨s, rfl, by simpa using hf, by simpa using hs, hn⟩
      | succ i =>
        simp only [List.getElem?_cons_succ] at hin
        obtain ⟨t, h1, h2⟩ := ha i n hin
        refine ⟨t, by simpa using h1, ?_⟩
        rw [List.take_succ_cons, show sh0 ++ s :: q.take i = sh0 ++ [s] ++ q.take i by simp]
        exact h2
theorem check_in {g : GraphV} (h : (check g).1 = 0) : 1 ≤ g.l.length ∧ g.l.length ≤ 24 ∧ (0 ≤ g.out ∧ g.out < g.l.length) ∧ (check g).2.length = g.l.length ∧ ∀ i n, g.l[i]? = some n → ∃ s, (check g).2[i]? = some s ∧ NodeIn n ((check g).2.take i) s := by
  unfold check at h ⊢
  split at h
  · simp at h
  rename_i hc
  rw [if_neg hc]
  obtain ⟨q, hq, hl, ha⟩ := checkR_in (l := g.l) (sh0 := []) (sh := (checkR g.l []).2) (Prod.ext h rfl)
  rw [List.nil_append] at hq
  subst hq
  exact ⟨by omega, by omega, by omega, hl, fun i n hn => ha i n hn⟩
theorem ahead_of {n : NodeV} {at_ : Nat} (h : formB n at_ = true) : (0 ≤ n.a ∧ (n.a < at_ ∨ n.a = 0)) ∧ (0 ≤ n.b ∧ (n.b < at_ ∨ n.b = 0)) ∧ (n.kind = 7 → n.data.xs.length = 1) ∧ (n.kind = 8 → n.data.xs.length = 3) ∧ (n.kind = 2 → (n.data.xs.length : Int) = entries n.shape.xs) := by
  have hfo := formed_of h
  have hkk := hfo.kind
  unfold formB at h
  have hk : n.kind = 1 ∨ n.kind = 2 ∨ n.kind = 3 ∨ n.kind = 4 ∨ n.kind = 5 ∨ n.kind = 6 ∨ n.kind = 7 ∨ n.kind = 8 ∨ n.kind = 9 := by omega
  rcases hk with hk | hk | hk | hk | hk | hk | hk | hk | hk
  all_goals repeat (first | rw [if_pos (by omega)] at h | rw [if_neg (by omega)] at h)
  all_goals simp only [lacksB, aheadB, Bool.true_or, Bool.false_or, Bool.true_and, Bool.and_true, Bool.and_eq_true, decide_eq_true_eq] at h
  all_goals exact ⟨by omega, by omega, by omega, by omega, by omega⟩
theorem near_in {n : NodeV} (h : nearB n = true) : (∀ x ∈ n.data.xs, bd20 x) ∧ (∀ x ∈ n.bias.xs, bd20 x) ∧ bd20 n.lo ∧ bd20 n.hi ∧ n.lo ≤ n.hi := by
  unfold nearB nearL at h
  simp only [Bool.and_eq_true, List.all_eq_true, decide_eq_true_eq] at h
  exact ⟨fun x hx => h.1.1.1 x hx, fun x hx => h.1.1.2 x hx, h.1.2 n.lo (by simp), h.1.2 n.hi (by simp), h.2⟩
theorem foldl_min_le : ∀ (l : List Int) (x : Int), l.foldl min x ≤ x ∧ ∀ y ∈ l, l.foldl min x ≤ y
  | [], x => ⟨Int.le_refl _, fun y hy => by simp at hy⟩
  | z :: r, x => by
    obtain ⟨h1, h2⟩ := foldl_min_le r (min x z)
    refine ⟨by rw [List.foldl_cons]; omega, fun y hy => ?_⟩
    rw [List.foldl_cons]
    rcases List.mem_cons.1 hy with rfl | hy
    · omega
    · exact h2 y hy
theorem foldl_max_ge : ∀ (l : List Int) (x : Int), x ≤ l.foldl max x ∧ ∀ y ∈ l, y ≤ l.foldl max x
  | [], x => ⟨Int.le_refl _, fun y hy => by simp at hy⟩
  | z :: r, x => by
    obtain ⟨h1, h2⟩ := foldl_max_ge r (max x z)
    refine ⟨by rw [List.foldl_cons]; omega, fun y hy => ?_⟩
    rw [List.foldl_cons]
    rcases List.mem_cons.1 hy with rfl | hy
    · omega
    · exact h2 y hy
theorem foldI_min_le {l : List Int} {y : Int} (h : y ∈ l) : foldI min l ≤ y := by
  cases l with
  | nil => simp at h
  | cons x r =>
    rcases List.mem_cons.1 h with rfl | h
    · exact (foldl_min_le r _).1
    · exact (foldl_min_le r x).2 y h
theorem foldI_max_ge {l : List Int} {y : Int} (h : y ∈ l) : y ≤ foldI max l := by
  cases l with
  | nil => simp at h
  | cons x r =>
    rcases List.mem_cons.1 h with rfl | h
    · exact (foldl_max_ge r _).1
    · exact (foldl_max_ge r x).2 y h
theorem foldI_le {l : List Int} (h : 1 ≤ l.length) : foldI min l ≤ foldI max l := by
  cases l with
  | nil => simp at h
  | cons x r => exact Int.le_trans (foldI_min_le List.mem_cons_self) (foldI_max_ge List.mem_cons_self)
def spRows (l : List Sp) : List (List Value) := l.map fun s => [.int .i64 s.1, .int .i64 s.2]
theorem spRows_length (l : List Sp) : (spRows l).length = l.length := by simp [spRows]
theorem spRows_get {l : List Sp} {k : Nat} (h : k < l.length) : (spRows l)[k]? = some [.int .i64 l[k].1, .int .i64 l[k].2] := by simp [spRows, h]
def gridS (n : Nat) (acc : List Sp) : List Sp := acc ++ List.replicate (n - acc.length) (0, 0)
theorem gridS_length {n : Nat} {acc : List Sp} (h : acc.length ≤ n) : (gridS n acc).length = n := by unfold gridS; simp; omega
theorem gridS_getD {n j : Nat} {acc : List Sp} (h : acc.length ≤ n) (hj : j < n) : (spRows (gridS n acc))[j]? = some [.int .i64 (acc.getD j (0, 0)).1, .int .i64 (acc.getD j (0, 0)).2] := by
  rw [spRows_get (by rw [gridS_length h]; exact hj)]
  have : (gridS n acc)[j]'(by rw [gridS_length h]; exact hj) = acc.getD j (0, 0) := by
    unfold gridS
    rw [List.getElem_append]
    split
    · rename_i hlt; rw [List.getD_eq_getElem?_getD, List.getElem?_eq_getElem hlt]; rfl
    · rename_i hlt; rw [List.getD_eq_getElem?_getD, List.getElem?_eq_none (by omega)]; simp
  rw [this]
theorem gridS_store {n i : Nat} {acc : List Sp} {x y : Int} {K : List (List Value) → Prop} (hl : acc.length = i) (hi : i < n) (h : K (spRows (gridS n (acc ++ [(x, y)])))) : rowStoreK (spRows (gridS n acc)) i 0 [.int .i64 x, .int .i64 y] K := by
  subst hl
  refine rowStore_of _ (gridS_getD (Nat.le_of_lt hi) hi) (by show 0 + 2 ≤ 2; omega) ?_
  have e : (spRows (gridS n acc)).set acc.length (setFrom [.int .i64 (acc.getD acc.length (0, 0)).1, .int .i64 (acc.getD acc.length (0, 0)).2] 0 [.int .i64 x, .int .i64 y]) = spRows (gridS n (acc ++ [(x, y)])) := by
    have e2 : setFrom [.int .i64 (acc.getD acc.length (0, 0)).1, .int .i64 (acc.getD acc.length (0, 0)).2] 0 [.int .i64 x, .int .i64 y] = [Value.int .i64 x, .int .i64 y] := rfl
    rw [e2]
    unfold gridS spRows
    obtain ⟨k, hk⟩ : ∃ k, n - acc.length = k + 1 := ⟨n - acc.length - 1, by omega⟩
    rw [hk, List.length_append, List.length_singleton, show n - (acc.length + 1) = k by omega, List.replicate_succ]
    simp only [List.map_append, List.map_cons, List.map_nil]
    rw [List.set_append_right _ _ (by simp), List.length_map, Nat.sub_self, List.set_cons_zero]
    simp
  rw [e]; exact h
theorem shapes_okI {sv : ShapesV} {R : Nat → Prop} {w : World} {N : Nat} (hs : ∀ u ∈ sv.l, u.sane) (hl : sv.l.length ≤ 24) (h : ((shapesD sv).past N).holds R w) : sv.ok w :=
  ⟨rowsA_in h.1, fun u hu => intsA_ok (hs u hu) (h.2 u hu), hl⟩
theorem x_ok {w w' : World} {R : Nat → Prop} {n : NodeV} {x : IntsV × Bool} {N : Nat} (hn : n.data.ok w) (hs : x.1.sane) (ho : x.2 = true → x.1 = n.data) (hb : (baseA w).holds R w') (h : ((oldA x).past N).holds R w') : x.1.ok w' := by
  cases hx : x.2 with
  | true => rw [ho hx]; exact hn.later hb
  | false => exact intsA_ok hs (h hx)
def SpansPost (w : World) (r : Int × List Sp) (e : Ending) (w' : World) : Prop :=
  (r.1 ≠ 0 ∧ e = .returned (.tuple #[.slice none 0 0, .int .i64 r.1]) ∧ Ext w w') ∨ (r.1 = 0 ∧ ∃ v, e = .returned (.tuple #[v, .int .i64 0]) ∧ Ext w w' ∧ NewRows w w' v 2 58 (spRows r.2))
end Go.Proofs.YtgndjjdeopfdkaaGreat

/- ID -/
namespace Go.Proofs.YtgndjjdeopfdkaaGreat
open Go.SX Go.RowKit
theorem spans_bad {B : Base} {v : SV} {H : Heap} {S : Asn} {nx : Nat} {w : World} {r : Int × List Sp} (hb : ∀ R w', S.holds R w' → (baseA B.w0).holds R w') (hw0 : B.w0 = w) (hn : r.1 ≠ 0) (hv : ∀ ρ, v.rf ρ = .tuple #[.slice none 0 0, .int .i64 r.1]) : finK B v H S nx (SpansPost w r) := by
  subst hw0
  exact fin_of fun ρ w' hw => .inl ⟨hn, by rw [hv], ext_of_abs hw hb⟩
theorem spans_good {B : Base} {i n : Nat} {l : List Sp} {H : Heap} {S : Asn} {nx : Nat} {w : World} {r : Int × List Sp} (hb : ∀ R w', S.holds R w' → (baseA B.w0).holds R w') (hw0 : B.w0 = w) (he : (i, Ent.rows (spRows l) 2 58) ∈ H) (hn : n = l.length) (hr : r = (0, l)) : finK B (.tup [.os i n, .c (.int .i64 0)]) H S nx (SpansPost w r) := by
  subst hw0 hn hr
  refine fin_of fun ρ w' hw => .inr ⟨rfl, _, rfl, ext_of_abs hw hb, ?_⟩
  have hh := new_of_abs hw hb he
  rw [spRows_length] at hh
  exact hh
theorem endsL_len {n : NodeV} {a b : Sp} {at_ : Nat} (h : formB n at_ = true) : 1 ≤ (endsL n a b).length := by
  have h1 := (ahead_of h).2.2.2.2
  have hfo := formed_of h
  unfold endsL
  split
  · simp
  · split
    · rename_i hk
      have := hfo.own (.inr (.inl hk))
      have := h1 hk
      omega
    · split
      · simp
      · split
        · simp
        · split
          · split <;> simp
          · simp
theorem getD_sp {acc : List Sp} (h : ∀ s ∈ acc, bd20 s.1 ∧ bd20 s.2) (k : Nat) : bd20 (acc.getD k (0, 0)).1 ∧ bd20 (acc.getD k (0, 0)).2 := by
  rcases Nat.lt_or_ge k acc.length with hk | hk
  · rw [List.getD_eq_getElem?_getD, List.getElem?_eq_getElem hk]; exact h _ (List.getElem_mem hk)
  · rw [List.getD_eq_getElem?_getD, List.getElem?_eq_none hk]; exact ⟨⟨by decide, by decide⟩, ⟨by decide, by decide⟩⟩
theorem gridS_at {n i : Nat} {acc : List Sp} {s : Sp} (hl : acc.length = i) (hi : i < n) : (spRows (gridS n (acc ++ [s])))[i]? = some [.int .i64 s.1, .int .i64 s.2] := by
  subst hl
  rw [gridS_getD (by rw [List.length_append, List.length_singleton]; omega) hi]
  simp [List.getD_eq_getElem?_getD]
end Go.Proofs.YtgndjjdeopfdkaaGreat

/- IE -/
namespace Go.Proofs.YtgndjjdeopfdkaaGreat
open Go.SX Go.RowKit
theorem pow_diff (d : List Int) (u v : Int) : powI d v - powI d u = (v - u) * (d.getD 2 0 * (u + v) + d.getD 1 0) := by
  unfold powI
  generalize d.getD 2 0 = a
  generalize d.getD 1 0 = b
  generalize d.getD 0 0 = c
  grind
theorem turn_lo {a b : Int} (ha : 0 < a) : 2 * a * ((0 - b).tdiv (2 * a) - 1) + b ≤ 0 ∧ 0 ≤ 2 * a * ((0 - b).tdiv (2 * a) + 1) + b := by
  have h1 := Int.mul_tdiv_add_tmod (0 - b) (2 * a)
  have h2 : ((0 - b).tmod (2 * a)).natAbs < (2 * a).natAbs := by
    rw [Int.natAbs_tmod]; exact Nat.mod_lt _ (by omega)
  have h3 : 2 * a * ((0 - b).tdiv (2 * a) - 1) = 2 * a * (0 - b).tdiv (2 * a) - 2 * a := by rw [Int.mul_sub, Int.mul_one]
  have h4 : 2 * a * ((0 - b).tdiv (2 * a) + 1) = 2 * a * (0 - b).tdiv (2 * a) + 2 * a := by rw [Int.mul_add, Int.mul_one]
  rw [h3, h4]
  omega
theorem mono_up {a b T u v : Int} (ha : 0 < a) (hT : 0 ≤ 2 * a * (T + 1) + b) (h1 : T + 1 ≤ u) (h2 : u ≤ v) : 0 ≤ (v - u) * (a * (u + v) + b) := by
  refine Int.mul_nonneg (by omega) ?_
  have h3 : a * (2 * (T + 1)) ≤ a * (u + v) := Int.mul_le_mul_of_nonneg_left (by omega) (by omega)
  have h4 : 2 * a * (T + 1) = a * (2 * (T + 1)) := by grind
  omega
theorem mono_down {a b T u v : Int} (ha : 0 < a) (hT : 2 * a * (T - 1) + b ≤ 0) (h1 : v ≤ T - 1) (h2 : u ≤ v) : (v - u) * (a * (u + v) + b) ≤ 0 := by
  refine Int.mul_nonpos_of_nonneg_of_nonpos (by omega) ?_
  have h3 : a * (u + v) ≤ a * (2 * (T - 1)) := Int.mul_le_mul_of_nonneg_left (by omega) (by omega)
  have h4 : 2 * a * (T - 1) = a * (2 * (T - 1)) := by grind
  omega
/-- p falls up to T - 1 and grows from T + 1, or the other way round -/
theorem pow_ways {d : List Int} (h : d.getD 2 0 ≠ 0) :
    ((∀ u v, u ≤ v → v ≤ turnI d - 1 → powI d v ≤ powI d u) ∧ (∀ u v, turnI d + 1 ≤ u → u ≤ v → powI d u ≤ powI d v)) ∨
    ((∀ u v, u ≤ v → v ≤ turnI d - 1 → powI d u ≤ powI d v) ∧ (∀ u v, turnI d + 1 ≤ u → u ≤ v → powI d v ≤ powI d u)) := by
  rcases (by omega : 0 < d.getD 2 0 ∨ d.getD 2 0 < 0) with ha | ha
  · obtain ⟨t1, t2⟩ := turn_lo (b := d.getD 1 0) ha
    left
    refine ⟨fun u v h1 h2 => ?_, fun u v h1 h2 => ?_⟩
    · have := pow_diff d u v
      have := mono_down ha t1 h2 h1
      omega
    · have := pow_diff d u v
      have := mono_up ha t2 h1 h2
      omega
  · have ha' : 0 < -(d.getD 2 0) := by omega
    obtain ⟨t1, t2⟩ := turn_lo (b := -(d.getD 1 0)) ha'
    have hT : (0 - -(d.getD 1 0)).tdiv (2 * -(d.getD 2 0)) = turnI d := by
      unfold turnI
      rw [show 0 - -(d.getD 1 0) = -(0 - d.getD 1 0) by omega, show 2 * -(d.getD 2 0) = -(2 * d.getD 2 0) by omega, Int.neg_tdiv, Int.tdiv_neg, Int.neg_neg]
    rw [hT] at t1 t2
    have hneg : ∀ u v : Int, (v - u) * (-(d.getD 2 0) * (u + v) + -(d.getD 1 0)) = -((v - u) * (d.getD 2 0 * (u + v) + d.getD 1 0)) := fun u v => by grind
    right
    refine ⟨fun u v h1 h2 => ?_, fun u v h1 h2 => ?_⟩
    · have := pow_diff d u v
      have h3 := mono_down ha' t1 h2 h1
      rw [hneg] at h3
      omega
    · have := pow_diff d u v
      have h3 := mono_up ha' t2 h1 h2
      rw [hneg] at h3
      omega
theorem mem_ptsL : ∀ {n : Nat} {v x : Int}, x ∈ ptsL n v ↔ v ≤ x ∧ x < v + n
  | 0, v, x => by simp [ptsL]
  | n + 1, v, x => by
    unfold ptsL
    rw [List.mem_cons, mem_ptsL]
    omega
def powEnds (d : List Int) (a : Sp) : List Int := if d.getD 2 0 = 0 then [powI d a.1, powI d a.2] else [powI d a.1, powI d a.2] ++ (ptsL (hiI d a - loI d a + 1).toNat (loI d a)).map (powI d)
theorem powEnds_lo {d : List Int} {a : Sp} : powI d a.1 ∈ powEnds d a := by unfold powEnds; split <;> simp
theorem powEnds_hi {d : List Int} {a : Sp} : powI d a.2 ∈ powEnds d a := by unfold powEnds; split <;> simp
theorem powEnds_in {d : List Int} {a : Sp} {v : Int} (hz : d.getD 2 0 ≠ 0) (h1 : loI d a ≤ v) (h2 : v ≤ hiI d a) : powI d v ∈ powEnds d a := by
  unfold powEnds
  rw [if_neg hz]
  exact List.mem_append_right _ (List.mem_map.2 ⟨v, mem_ptsL.2 ⟨h1, by omega⟩, rfl⟩)
theorem powEnds_all {d : List Int} {a : Sp} {v : Int} (h1 : a.1 ≤ v) (h2 : v ≤ a.2) : (∃ x ∈ powEnds d a, x ≤ powI d v) ∧ (∃ x ∈ powEnds d a, powI d v ≤ x) := by
  by_cases hz : d.getD 2 0 = 0
  · have e1 := pow_diff d a.1 v
    have e2 := pow_diff d v a.2
    rw [hz] at e1 e2
    rw [Int.zero_mul, Int.zero_add] at e1 e2
    rcases (by omega : 0 ≤ d.getD 1 0 ∨ d.getD 1 0 ≤ 0) with hb | hb
    · have m1 := Int.mul_nonneg (show 0 ≤ v - a.1 by omega) hb
      have m2 := Int.mul_nonneg (show 0 ≤ a.2 - v by omega) hb
      exact ⟨⟨_, powEnds_lo, by omega⟩, ⟨_, powEnds_hi, by omega⟩⟩
    · have m1 := Int.mul_nonpos_of_nonneg_of_nonpos (show 0 ≤ v - a.1 by omega) hb
      have m2 := Int.mul_nonpos_of_nonneg_of_nonpos (show 0 ≤ a.2 - v by omega) hb
      exact ⟨⟨_, powEnds_hi, by omega⟩, ⟨_, powEnds_lo, by omega⟩⟩
  · by_cases hin : loI d a ≤ v ∧ v ≤ hiI d a
    · exact ⟨⟨_, powEnds_in hz hin.1 hin.2, Int.le_refl _⟩, ⟨_, powEnds_in hz hin.1 hin.2, Int.le_refl _⟩⟩
    · have hL : loI d a = max a.1 (turnI d - 1) := rfl
      have hH : hiI d a = min a.2 (turnI d + 1) := rfl
      rcases (by omega : v < loI d a ∨ hiI d a < v) with hv | hv
      · have hvT : v ≤ turnI d - 1 := by omega
        rcases (by omega : turnI d - 1 ≤ a.2 ∨ a.2 ≤ turnI d - 1) with hc | hc
        · have hm := powEnds_in (a := a) (v := turnI d - 1) hz (by omega) (by omega)
          rcases pow_ways hz with ⟨w1, _⟩ | ⟨w1, _⟩
          · exact ⟨⟨_, hm, w1 v (turnI d - 1) hvT (Int.le_refl _)⟩, ⟨_, powEnds_lo, w1 a.1 v h1 hvT⟩⟩
          · exact ⟨⟨_, powEnds_lo, w1 a.1 v h1 hvT⟩, ⟨_, hm, w1 v (turnI d - 1) hvT (Int.le_refl _)⟩⟩
        · rcases pow_ways hz with ⟨w1, _⟩ | ⟨w1, _⟩
          · exact ⟨⟨_, powEnds_hi, w1 v a.2 h2 hc⟩, ⟨_, powEnds_lo, w1 a.1 v h1 hvT⟩⟩
          · exact ⟨⟨_, powEnds_lo, w1 a.1 v h1 hvT⟩, ⟨_, powEnds_hi, w1 v a.2 h2 hc⟩⟩
      · have hvT : turnI d + 1 ≤ v := by omega
        rcases (by omega : a.1 ≤ turnI d + 1 ∨ turnI d + 1 ≤ a.1) with hc | hc
        · have hm := powEnds_in (a := a) (v := turnI d + 1) hz (by omega) (by omega)
          rcases pow_ways hz with ⟨_, w2⟩ | ⟨_, w2⟩
          · exact ⟨⟨_, hm, w2 (turnI d + 1) v (Int.le_refl _) hvT⟩, ⟨_, powEnds_hi, w2 v a.2 hvT h2⟩⟩
          · exact ⟨⟨_, powEnds_hi, w2 v a.2 hvT h2⟩, ⟨_, hm, w2 (turnI d + 1) v (Int.le_refl _) hvT⟩⟩
        · rcases pow_ways hz with ⟨_, w2⟩ | ⟨_, w2⟩
          · exact ⟨⟨_, powEnds_lo, w2 a.1 v hc h1⟩, ⟨_, powEnds_hi, w2 v a.2 hvT h2⟩⟩
          · exact ⟨⟨_, powEnds_hi, w2 v a.2 hvT h2⟩, ⟨_, powEnds_lo, w2 a.1 v hc h1⟩⟩
theorem pow_within {d : List Int} {a : Sp} {v : Int} (h1 : a.1 ≤ v) (h2 : v ≤ a.2) : foldI min (powEnds d a) ≤ powI d v ∧ powI d v ≤ foldI max (powEnds d a) := by
  obtain ⟨⟨x, hx, hx'⟩, ⟨y, hy, hy'⟩⟩ := powEnds_all (d := d) h1 h2
  exact ⟨Int.le_trans (foldI_min_le hx) hx', Int.le_trans hy' (foldI_max_ge hy)⟩
theorem foldl_min_mem : ∀ (l : List Int) (x : Int), l.foldl min x = x ∨ l.foldl min x ∈ l
  | [], x => .inl rfl
  | z :: r, x => by
    rw [List.foldl_cons]
    rcases foldl_min_mem r (min x z) with h | h
    · rw [h]
      rcases (by omega : min x z = x ∨ min x z = z) with h | h
      · exact .inl h
      · exact .inr (by rw [h]; exact List.mem_cons_self)
    · exact .inr (List.mem_cons_of_mem _ h)
theorem foldl_max_mem : ∀ (l : List Int) (x : Int), l.foldl max x = x ∨ l.foldl max x ∈ l
  | [], x => .inl rfl
  | z :: r, x => by
    rw [List.foldl_cons]
    rcases foldl_max_mem r (max x z) with h | h
    · rw [h]
      rcases (by omega : max x z = x ∨ max x z = z) with h | h
      · exact .inl h
      · exact .inr (by rw [h]; exact List.mem_cons_self)
    · exact .inr (List.mem_cons_of_mem _ h)
theorem foldI_min_mem {l : List Int} (h : 1 ≤ l.length) : foldI min l ∈ l := by
  cases l with
  | nil => simp at h
  | cons x r =>
    rcases foldl_min_mem r x with h | h
    · rw [foldI, h]; exact List.mem_cons_self
    · exact List.mem_cons_of_mem _ h
theorem foldI_max_mem {l : List Int} (h : 1 ≤ l.length) : foldI max l ∈ l := by
  cases l with
  | nil => simp at h
  | cons x r =>
    rcases foldl_max_mem r x with h | h
    · rw [foldI, h]; exact List.mem_cons_self
    · exact List.mem_cons_of_mem _ h
end Go.Proofs.YtgndjjdeopfdkaaGreat

/- IF -/
namespace Go.Proofs.YtgndjjdeopfdkaaGreat
abbrev dtIF3 : Go.SX.DT := (.take 0 (.take 1 (.take 2 (.take 3 (.take 4 (.take 5 (.take 6 (.take 7 (.take 8 (.take 9 (.take 10 (.take 11 (.take 12 (.take 13 (.one 14 (.done))))))))))))))))
open Go.SX Go.RowKit
def numAt (n : NodeV) (a b : List Int) (o : Nat) : Int :=
  if n.kind = 2 then n.data.xs.getD o 0
  else if n.kind = 6 then a.getD o 0 + b.getD o 0
  else if n.kind = 7 then a.getD o 0 * n.data.xs.getD 0 0
  else if n.kind = 8 then powI n.data.xs (a.getD o 0)
  else a.getD o 0
def numsL (n : NodeV) (cnt : Nat) (a b : List Int) : List Int := (List.range cnt).map (numAt n a b)
end Go.Proofs.YtgndjjdeopfdkaaGreat

/- IG -/
namespace Go.Proofs.YtgndjjdeopfdkaaGreat
open Go.SX Go.RowKit
def within (s : Sp) (l : List Int) : Prop := ∀ x ∈ l, s.1 ≤ x ∧ x ≤ s.2
theorem within_getD {s : Sp} {l : List Int} (h : within s l) {o : Nat} (ho : o < l.length) : s.1 ≤ l.getD o 0 ∧ l.getD o 0 ≤ s.2 := h _ (getD_mem ho)
theorem scale_within {d a1 a2 v : Int} (h1 : a1 ≤ v) (h2 : v ≤ a2) : foldI min [d * a1, d * a2] ≤ v * d ∧ v * d ≤ foldI max [d * a1, d * a2] := by
  have e : v * d = d * v := Int.mul_comm _ _
  have m1 : foldI min [d * a1, d * a2] = min (d * a1) (d * a2) := rfl
  have m2 : foldI max [d * a1, d * a2] = max (d * a1) (d * a2) := rfl
  rw [m1, m2, e]
  rcases (by omega : 0 ≤ d ∨ d ≤ 0) with hd | hd
  · have := Int.mul_le_mul_of_nonneg_left h1 hd
    have := Int.mul_le_mul_of_nonneg_left h2 hd
    omega
  · have := Int.mul_le_mul_of_nonpos_left hd h1
    have := Int.mul_le_mul_of_nonpos_left hd h2
    omega
theorem num_within {n : NodeV} {cnt o : Nat} {a b : List Int} {A B : Sp} (hk : n.kind = 2 ∨ n.kind = 6 ∨ n.kind = 7 ∨ n.kind = 8 ∨ n.kind = 9) (h2 : n.kind = 2 → n.data.xs.length = cnt) (ha : n.kind ≠ 2 → a.length = cnt) (hb : n.kind = 6 → b.length = cnt) (hA : within A a) (hB : within B b) (ho : o < cnt) :
    foldI min (endsL n A B) ≤ numAt n a b o ∧ numAt n a b o ≤ foldI max (endsL n A B) := by
  rcases hk with hk | hk | hk | hk | hk
  · have hN : numAt n a b o = n.data.xs.getD o 0 := if_pos hk
    have hL : endsL n A B = n.data.xs := by unfold endsL; rw [if_neg (by omega), if_pos hk]
    rw [hN, hL]
    have hm := getD_mem (xs := n.data.xs) (k := o) (by rw [h2 hk]; exact ho)
    exact ⟨foldI_min_le hm, foldI_max_ge hm⟩
  · have hN : numAt n a b o = a.getD o 0 + b.getD o 0 := by unfold numAt; rw [if_neg (by omega), if_pos hk]
    have hL : endsL n A B = [A.1 + B.1, A.2 + B.2] := by unfold endsL; rw [if_neg (by omega), if_neg (by omega), if_pos hk]
    rw [hN, hL]
    have h1 := within_getD hA (o := o) (by rw [ha (by omega)]; exact ho)
    have h2 := within_getD hB (o := o) (by rw [hb hk]; exact ho)
    have m1 : foldI min [A.1 + B.1, A.2 + B.2] = min (A.1 + B.1) (A.2 + B.2) := rfl
    have m2 : foldI max [A.1 + B.1, A.2 + B.2] = max (A.1 + B.1) (A.2 + B.2) := rfl
    rw [m1, m2]
    omega
  · have hN : numAt n a b o = a.getD o 0 * n.data.xs.getD 0 0 := by unfold numAt; rw [if_neg (by omega), if_neg (by omega), if_pos hk]
    have hL : endsL n A B = [n.data.xs.getD 0 0 * A.1, n.data.xs.getD 0 0 * A.2] := by unfold endsL; rw [if_neg (by omega), if_neg (by omega), if_neg (by omega), if_pos hk]
    rw [hN, hL]
    have h1 := within_getD hA (o := o) (by rw [ha (by omega)]; exact ho)
    exact scale_within h1.1 h1.2
  · have hN : numAt n a b o = powI n.data.xs (a.getD o 0) := by unfold numAt; rw [if_neg (by omega), if_neg (by omega), if_neg (by omega), if_pos hk]
    have hL : endsL n A B = powEnds n.data.xs A := by unfold endsL powEnds; rw [if_neg (by omega), if_neg (by omega), if_neg (by omega), if_neg (by omega), if_pos hk]
    rw [hN, hL]
    have h1 := within_getD hA (o := o) (by rw [ha (by omega)]; exact ho)
    exact pow_within h1.1 h1.2
  · have hN : numAt n a b o = a.getD o 0 := by unfold numAt; rw [if_neg (by omega), if_neg (by omega), if_neg (by omega), if_neg (by omega)]
    have hL : endsL n A B = [A.1, A.2] := by unfold endsL; rw [if_neg (by omega), if_neg (by omega), if_neg (by omega), if_neg (by omega), if_neg (by omega)]
    rw [hN, hL]
    have h1 := within_getD hA (o := o) (by rw [ha (by omega)]; exact ho)
    have m1 : foldI min [A.1, A.2] = min A.1 A.2 := rfl
    have m2 : foldI max [A.1, A.2] = max A.1 A.2 := rfl
    rw [m1, m2]
    omega
structure InV.ok (w : World) (v : ShapesV) : Prop where
  rows : RowsI w v.base 1 (shRows v.l)
  each : ∀ u ∈ v.l, u.ok w
  room : v.l.length ≤ v.cap
  few : v.l.length ≤ 1000000
def InV.rest (v : ShapesV) (a : Addr) : ShapesV := ⟨some (if v.cap = 1 then a else a.add 1), v.cap - 1, v.l.drop 1⟩
theorem InV.later {w w' : World} {R : Nat → Prop} {v : ShapesV} (h : InV.ok w v) (hb : (baseA w).holds R w') : InV.ok w' v := ⟨rows_base hb h.rows, fun u hu => (h.each u hu).later hb, h.room, h.few⟩
end Go.Proofs.YtgndjjdeopfdkaaGreat

/- IO -/
namespace Go.Proofs.YtgndjjdeopfdkaaGreat
abbrev dtIO0 : Go.SX.DT := (.take 0 (.alt 1 (.alt 2 (.alt 3 (.alt 4 (.one 5 (.alt 6 (.one 7 (.one 8 (.one 9 (.one 10 (.done))))) (.one 7 (.alt 6 (.one 8 (.one 9 (.one 10 (.done)))) (.one 8 (.one 6 (.one 9 (.one 10 (.done))))))))) (.one 5 (.alt 4 (.alt 6 (.one 7 (.one 8 (.one 9 (.one 10 (.done))))) (.one 7 (.alt 6 (.one 8 (.one 9 (.one 10 (.done)))) (.one 8 (.one 6 (.one 9 (.one 10 (.done)))))))) (.one 6 (.one 4 (.one 7 (.one 8 (.one 9 (.one 10 (.done)))))))))) (.one 5 (.alt 3 (.alt 4 (.alt 6 (.one 7 (.one 8 (.one 9 (.one 10 (.done))))) (.one 7 (.alt 6 (.one 8 (.one 9 (.one 10 (.done)))) (.one 8 (.one 6 (.one 9 (.one 10 (.done)))))))) (.one 6 (.one 4 (.one 7 (.one 8 (.one 9 (.one 10 (.done)))))))) (.one 6 (.one 3 (.one 4 (.one 7 (.one 8 (.one 9 (.one 10 (.done))))))))))) (.one 5 (.alt 2 (.alt 3 (.alt 4 (.alt 6 (.one 7 (.one 8 (.one 9 (.one 10 (.done))))) (.one 7 (.alt 6 (.one 8 (.one 9 (.one 10 (.done)))) (.one 8 (.one 6 (.one 9 (.one 10 (.done)))))))) (.one 6 (.one 4 (.one 7 (.one 8 (.one 9 (.one 10 (.done)))))))) (.one 6 (.one 3 (.one 4 (.one 7 (.one 8 (.one 9 (.one 10 (.done))))))))) (.one 6 (.one 2 (.one 3 (.one 4 (.one 7 (.one 8 (.one 9 (.one 10 (.done)))))))))))) (.one 5 (.alt 1 (.alt 2 (.alt 3 (.alt 4 (.alt 6 (.one 7 (.one 8 (.one 9 (.one 10 (.done))))) (.one 7 (.alt 6 (.one 8 (.one 9 (.one 10 (.done)))) (.one 8 (.one 6 (.one 9 (.one 10 (.done)))))))) (.one 6 (.one 4 (.one 7 (.one 8 (.one 9 (.one 10 (.done)))))))) (.one 6 (.one 3 (.one 4 (.one 7 (.one 8 (.one 9 (.one 10 (.done))))))))) (.one 6 (.one 2 (.one 3 (.one 4 (.one 7 (.one 8 (.one 9 (.one 10 (.done)))))))))) (.one 6 (.one 1 (.one 2 (.one 3 (.one 4 (.one 7 (.one 8 (.one 9 (.one 10 (.done))))))))))))))
open Go.SX Go.RowKit
def termsF (n : NodeV) (inV : Value) (c : Int) : Value :=
  if n.kind = 3 then .func (.func 104) #[placeV n (.slice none 0 0) .nilFunc c] #[]
  else if n.kind = 4 then .func (.func 105) #[placeV n inV .nilFunc c] #[]
  else .func (.func 106) #[placeV n inV .nilFunc c] #[]
set_option maxRecDepth 20000 in
set_option maxHeartbeats 1000000 in
theorem at_lin (w : World) (n : NodeV) (sv : ShapesV) (hs : sv.ok w) (i j : Nat) (s t : IntsV) (hi : sv.l[i]? = some s) (hj : sv.l[j]? = some t) (hja : n.a = j) (hk : n.kind = 3 ∨ n.kind = 4 ∨ n.kind = 5) : Calls Tryz.prog 50 #[n.valA, sv.val, .int .i64 i] w fun e w' => e = .returned (placeV n t.val (termsF n t.val (entries s.xs)) (entries s.xs)) ∧ Ext w w' := by
  obtain ⟨hlt, hsi⟩ := List.getElem?_eq_some_iff.1 hi
  obtain ⟨hltj, htj⟩ := List.getElem?_eq_some_iff.1 hj
  have hfew := hs.few
  obtain ⟨a, ha⟩ : ∃ a, sv.base = some a := base_some (j := i) hs.rows (by rw [shRows_length]; exact hlt)
  have hrow := shRows_get hlt
  rw [hsi] at hrow
  have hrowj := shRows_get hltj
  rw [htj] at hrowj
  have hss := hs.each s (hsi ▸ List.getElem_mem hlt)
  rcases hk with hk | hk | hk
  · have hT : termsF n t.val (entries s.xs) = .func (.func 104) #[placeV n (.slice none 0 0) .nilFunc (entries s.xs)] #[] := if_pos hk
    rw [hT]
    refine calls_of tab tabOk Tryz.func50 rfl rfl rfl [] (fun _ => ⟨none, 0⟩) [.agg [.c (.int .i64 n.kind), .c (.int .i64 n.a), .c (.int .i64 n.b), .c n.shape.val, .c (.int .i64 n.lo), .c (.int .i64 n.hi), .c (.int .i64 n.size), .c n.data.val, .c n.bias.val], .c sv.val, .c (.int .i64 i)] [] (baseA w) 0 rfl rfl (by show 3 ≤ _; decide) (abs_base w) ?_
    (repeat' ((conv => whnf) <;> first | (show idxK _ _ _ _ _; (first | refine idx_of a i ha rfl hlt ?_ | refine idx_of a j ha hja hltj ?_)) | (show roK _ _ _; (first | refine ro_row0 (fun R w' h => by rw [← ha]; exact rows_base h hs.rows) _ _ hrow rfl ?_ | refine ro_row0 (fun R w' h => by rw [← ha]; exact rows_base h hs.rows) _ _ hrowj rfl ?_)) | (show callK _ 61 _ _ _ _ _; refine call_pure (f := 61) Tryz.call61 _ (fun ρ w' hw => entries_ints w' s (holds_of_abs hw fun R h => hss.later h)) ?_) | (show drawK _ 4 _ _ _ _ _ _; refine draw_tree tabOk mixed [] [] dtIO0 (by kernel_rfl) (by kernel_rfl) (by kernel_rfl) (List.nil_sublist _) ?_) | (show keepK _ _ _ _ _; refine keepB ?_) | (show drawK _ 1 _ _ _ _ _ _; refine draw_tree tabOk mixed [8] _ dtIA0 (by kernel_rfl) (by kernel_rfl) (by kernel_rfl) (List.Sublist.refl _) ?_) | (show Wp _ _ _ _ _ _ _; refine Wp.go tabOk rfl ?_) | (show @cmpK _ _ _; (first | refine cmpY ?_ | refine cmpN ?_ | (refine cmp_both ?_ ?_ <;> intro _))) | (show wrapK _ _ _; refine wrapA ?_) | (show leK _ _ _; refine leA ?_) | (show roomK _ _ _; refine roomA ?_) | (show ltK _ _ _; refine ltA ?_) | (show _ ∧ _; refine ⟨?_, ?_⟩) | (show keepK _ _ _ _ _; refine keepA ?_) | refine own_keep ?_ | refine ap_old ?_))
    all_goals (conv => whnf)
    all_goals exact ends_of (fun _ _ h => h) (fun _ => rfl) rfl
  · have hT : termsF n t.val (entries s.xs) = .func (.func 105) #[placeV n t.val .nilFunc (entries s.xs)] #[] := by unfold termsF; rw [if_neg (by omega), if_pos hk]
    rw [hT]
    refine calls_of tab tabOk Tryz.func50 rfl rfl rfl [] (fun _ => ⟨none, 0⟩) [.agg [.c (.int .i64 n.kind), .c (.int .i64 n.a), .c (.int .i64 n.b), .c n.shape.val, .c (.int .i64 n.lo), .c (.int .i64 n.hi), .c (.int .i64 n.size), .c n.data.val, .c n.bias.val], .c sv.val, .c (.int .i64 i)] [] (baseA w) 0 rfl rfl (by show 3 ≤ _; decide) (abs_base w) ?_
    (repeat' ((conv => whnf) <;> first | (show idxK _ _ _ _ _; (first | refine idx_of a i ha rfl hlt ?_ | refine idx_of a j ha hja hltj ?_)) | (show roK _ _ _; (first | refine ro_row0 (fun R w' h => by rw [← ha]; exact rows_base h hs.rows) _ _ hrow rfl ?_ | refine ro_row0 (fun R w' h => by rw [← ha]; exact rows_base h hs.rows) _ _ hrowj rfl ?_)) | (show callK _ 61 _ _ _ _ _; refine call_pure (f := 61) Tryz.call61 _ (fun ρ w' hw => entries_ints w' s (holds_of_abs hw fun R h => hss.later h)) ?_) | (show keepK _ _ _ _ _; refine keepB ?_) | (show drawK _ 1 _ _ _ _ _ _; refine draw_tree tabOk mixed [8] _ dtIA0 (by kernel_rfl) (by kernel_rfl) (by kernel_rfl) (List.Sublist.refl _) ?_) | (show drawK _ 4 _ _ _ _ _ _; refine draw_tree tabOk mixed [8, 10] _ dtIA1 (by kernel_rfl) (by kernel_rfl) (by kernel_rfl) (List.Sublist.refl _) ?_) | (show Wp _ _ _ _ _ _ _; refine Wp.go tabOk rfl ?_) | (show @cmpK _ _ _; (first | refine cmpY ?_ | refine cmpN ?_ | (refine cmp_both ?_ ?_ <;> intro _))) | (show wrapK _ _ _; refine wrapA ?_) | (show leK _ _ _; refine leA ?_) | (show roomK _ _ _; refine roomA ?_) | (show ltK _ _ _; refine ltA ?_) | (show _ ∧ _; refine ⟨?_, ?_⟩) | (show keepK _ _ _ _ _; refine keepA ?_) | refine own_keep ?_ | refine ap_old ?_))
    all_goals (conv => whnf)
    all_goals exact ends_of (fun _ _ h => h) (fun _ => rfl) rfl
  · have hT : termsF n t.val (entries s.xs) = .func (.func 106) #[placeV n t.val .nilFunc (entries s.xs)] #[] := by unfold termsF; rw [if_neg (by omega), if_neg (by omega)]
    rw [hT]
    refine calls_of tab tabOk Tryz.func50 rfl rfl rfl [] (fun _ => ⟨none, 0⟩) [.agg [.c (.int .i64 n.kind), .c (.int .i64 n.a), .c (.int .i64 n.b), .c n.shape.val, .c (.int .i64 n.lo), .c (.int .i64 n.hi), .c (.int .i64 n.size), .c n.data.val, .c n.bias.val], .c sv.val, .c (.int .i64 i)] [] (baseA w) 0 rfl rfl (by show 3 ≤ _; decide) (abs_base w) ?_
    (repeat' ((conv => whnf) <;> first | (show idxK _ _ _ _ _; (first | refine idx_of a i ha rfl hlt ?_ | refine idx_of a j ha hja hltj ?_)) | (show roK _ _ _; (first | refine ro_row0 (fun R w' h => by rw [← ha]; exact rows_base h hs.rows) _ _ hrow rfl ?_ | refine ro_row0 (fun R w' h => by rw [← ha]; exact rows_base h hs.rows) _ _ hrowj rfl ?_)) | (show callK _ 61 _ _ _ _ _; refine call_pure (f := 61) Tryz.call61 _ (fun ρ w' hw => entries_ints w' s (holds_of_abs hw fun R h => hss.later h)) ?_) | (show keepK _ _ _ _ _; refine keepB ?_) | (show drawK _ 1 _ _ _ _ _ _; refine draw_tree tabOk mixed [8] _ dtIA0 (by kernel_rfl) (by kernel_rfl) (by kernel_rfl) (List.Sublist.refl _) ?_) | (show drawK _ 4 _ _ _ _ _ _; refine draw_tree tabOk mixed [8, 10] _ dtIA1 (by kernel_rfl) (by kernel_rfl) (by kernel_rfl) (List.Sublist.refl _) ?_) | (show Wp _ _ _ _ _ _ _; refine Wp.go tabOk rfl ?_) | (show @cmpK _ _ _; (first | refine cmpY ?_ | refine cmpN ?_ | (refine cmp_both ?_ ?_ <;> intro _))) | (show wrapK _ _ _; refine wrapA ?_) | (show leK _ _ _; refine leA ?_) | (show roomK _ _ _; refine roomA ?_) | (show ltK _ _ _; refine ltA ?_) | (show _ ∧ _; refine ⟨?_, ?_⟩) | (show keepK _ _ _ _ _; refine keepA ?_) | refine own_keep ?_ | refine ap_old ?_))
    all_goals (conv => whnf)
    all_goals exact ends_of (fun _ _ h => h) (fun _ => rfl) rfl
end Go.Proofs.YtgndjjdeopfdkaaGreat

/- IP -/
namespace Go.Proofs.YtgndjjdeopfdkaaGreat
open Go.SX Go.RowKit
theorem wrap_isI {z : Int} (y : Int) {K : Int → Prop} (h : z = y) (h1 : -9223372036854775808 ≤ y) (h2 : y ≤ 9223372036854775807) (hk : K y) : wrapK .i64 z K := by
  subst h; exact wrap_i64 h1 h2 hk
abbrev TermsPost (w : World) (l : List Sp) : Ending → World → Prop := fun e w' => ∃ v, e = .returned v ∧ Ext w w' ∧ NewRows w w' v 2 152 (spRows l)
theorem terms_end {B : Base} {i m : Nat} {H : Heap} {S : Asn} {nx : Nat} {w : World} {l l' : List Sp} (hl' : l' = l) (hb : ∀ R w', S.holds R w' → (baseA B.w0).holds R w') (hw0 : B.w0 = w) (he : (i, Ent.rows (spRows l') 2 152) ∈ H) (hm : m = l.length) : finK B (.os i m) H S nx (TermsPost w l) := by
  subst hw0 hm hl'
  refine fin_of fun ρ w' hw => ⟨_, rfl, ext_of_abs hw hb, ?_⟩
  have hn := new_of_abs hw hb he
  rw [spRows_length] at hn
  exact hn
def denseT (n : NodeV) (o : Nat) (size : Nat) : List Sp := (List.range size).map fun i => (n.data.xs.getD (o * size + i) 0, (i : Int))
theorem denseT_snoc (n : NodeV) (o size i : Nat) : (List.range (i + 1)).map (fun i => ((n.data.xs.getD (o * size + i) 0, (i : Int)) : Sp)) = (List.range i).map (fun i => ((n.data.xs.getD (o * size + i) 0, (i : Int)) : Sp)) ++ [(n.data.xs.getD (o * size + i) 0, (i : Int))] := by
  rw [List.range_succ, List.map_append]; rfl
set_option maxRecDepth 20000 in
theorem dense_any (w : World) (n : NodeV) (hd : n.data.ok w) (hbl : 1 ≤ n.bias.xs.length ∧ n.bias.xs.length ≤ 64) (inV fnV : Value) (c : Int) (o size : Nat) (hs : size ≤ 64) (hdl : n.data.xs.length = n.bias.xs.length * size) (ho : o < n.bias.xs.length) : Calls Tryz.prog 104 #[placeV n inV fnV c, .int .i64 o] w (TermsPost w (denseT n o size)) := by
  have hprod : n.bias.xs.length * size ≤ 64 * 64 := Nat.mul_le_mul hbl.2 hs
  have hdiv : (n.data.xs.length : Int) / n.bias.xs.length = size := by
    rw [hdl, Int.natCast_mul]
    exact Int.mul_ediv_cancel_left _ (by omega)
  have hos : o * size + size ≤ n.data.xs.length := by
    have := Nat.mul_le_mul_right size (show o + 1 ≤ n.bias.xs.length by omega)
    rw [Nat.succ_mul] at this
    omega
  refine calls_of tab tabOk Tryz.func104 rfl rfl rfl [] (fun _ => ⟨none, 0⟩) [.agg [.c (.int .i64 n.kind), .c (.int .i64 n.a), .c (.int .i64 n.b), .c n.shape.val, .c (.int .i64 n.lo), .c (.int .i64 n.hi), .c (.int .i64 n.size), .c n.data.val, .c n.bias.val, .c inV, .c fnV, .c (.int .i64 c)], .c (.int .i64 o)] [] (baseA w) 0 rfl rfl (by show 2 ≤ _; decide) (abs_base w) ?_
  (repeat' ((conv => whnf) <;> first | (show divK _ _ _ _; refine div_pos rfl (by omega) (by omega) (by omega) ?_) | (show Wp _ _ _ _ _ _ _; refine Wp.go tabOk rfl ?_) | (show @cmpK _ _ _; (first | refine cmpY ?_ | refine cmpN ?_ | (refine cmp_both ?_ ?_ <;> intro _))) | (show wrapK _ _ _; refine wrapA ?_) | (show leK _ _ _; refine leA ?_) | (show roomK _ _ _; refine roomA ?_) | (show ltK _ _ _; refine ltA ?_) | (show _ ∧ _; refine ⟨?_, ?_⟩) | (show keepK _ _ _ _ _; refine keepA ?_) | refine own_keep ?_ | refine ap_old ?_))
  rw [hdiv]
  (repeat' ((conv => whnf) <;> first | (show makeK _ _ _ _; (refine make_of size rfl rfl (by show 16 * _ ≤ _; omega) (by omega) ?_)) | (show Wp _ _ _ _ _ _ _; refine Wp.go tabOk rfl ?_) | (show @cmpK _ _ _; (first | refine cmpY ?_ | refine cmpN ?_ | (refine cmp_both ?_ ?_ <;> intro _))) | (show wrapK _ _ _; refine wrapA ?_) | (show leK _ _ _; refine leA ?_) | (show roomK _ _ _; refine roomA ?_) | (show ltK _ _ _; refine ltA ?_) | (show _ ∧ _; refine ⟨?_, ?_⟩) | (show keepK _ _ _ _ _; refine keepA ?_) | refine own_keep ?_ | refine ap_old ?_))
  refine Wp.loop (σ := Nat) 2 (fun i => [(1, .c (.int .i64 o)), (2, .lp 0 0 0 0), (5, .c (.int .i64 size)), (6, .os 1 size), (20, .c (.int .i64 size)), (21, .c (.int .i64 i))]) (fun i => [(1, .rows (spRows (gridS size ((List.range i).map fun i => ((n.data.xs.getD (o * size + i) 0, (i : Int)) : Sp)))) 2 152), (0, .box [.c (.int .i64 n.kind), .c (.int .i64 n.a), .c (.int .i64 n.b), .c n.shape.val, .c (.int .i64 n.lo), .c (.int .i64 n.hi), .c (.int .i64 n.size), .c n.data.val, .c n.bias.val, .c inV, .c fnV, .c (.int .i64 c)] 104)]) (fun _ => baseA w)
    (fun i => i ≤ size) (fun i => size - i) 0 [] (by decide) (fun s => ⟨rfl, rfl⟩) (Nat.zero_le _) ⟨rfl, ⟨rfl, rfl, rfl, rfl, rfl, rfl, trivial⟩, ⟨?_, (by repeat (first | exact List.mem_cons_self | apply List.mem_cons_of_mem)), trivial⟩, fun _ _ h => h⟩ ?_
  · have : spRows (gridS size ((List.range 0).map fun i => ((n.data.xs.getD (o * size + i) 0, (i : Int)) : Sp))) = List.replicate size [Value.int .i64 0, .int .i64 0] := by simp [spRows, gridS]
    show (1, Ent.rows (spRows (gridS size ((List.range 0).map fun i => ((n.data.xs.getD (o * size + i) 0, (i : Int)) : Sp)))) 2 152) ∈ _
    rw [this]
    exact (by repeat (first | exact List.mem_cons_self | apply List.mem_cons_of_mem))
  rintro i hi
  have hil : ((List.range i).map fun i => ((n.data.xs.getD (o * size + i) 0, (i : Int)) : Sp)).length = i := by simp
  by_cases hlt : i < size
  · have hsn := denseT_snoc n o size i
    obtain ⟨ua, hua⟩ := hd.base (by omega)
    have hur : ∀ (R : Nat → Prop) w', (baseA w).holds R w' → RowsI w' (some ua) 1 (ints n.data.xs) := fun R w' h => by rw [← hua]; exact rows_base h hd.rows
    have hm : (o : Int) * size = ((o * size : Nat) : Int) := by rw [Int.natCast_mul]
    obtain ⟨q, hq⟩ : ∃ q, o * size + i = q := ⟨_, rfl⟩
    rw [hq] at hsn
    (repeat' ((conv => whnf) <;> first | (show idxK _ _ _ _ _; refine idx_of _ q hua rfl (by omega) ?_) | (show roK _ _ _; refine ro_int hur (j := q) (by omega) ?_) | (show wrapK _ _ _; (first | refine wrap_isI ((o * size : Nat) : Int) hm (by omega) (by omega) ?_ | refine wrap_isI (q : Int) (by omega) (by omega) (by omega) ?_ | refine wrap_isI ((i + 1 : Nat) : Int) (by omega) (by omega) (by omega) ?_)) | (show idxRowK _ _ _ _ _ _; (refine idxRow_of i rfl hlt (by rw [spRows_length, gridS_length (by omega)]; exact Nat.le_refl _) ?_)) | (show rowStoreK _ _ _ _ _; refine gridS_store hil hlt ?_) | (show Wp _ _ _ _ _ _ _; refine Wp.go tabOk rfl ?_) | (show @cmpK _ _ _; (first | refine cmpY ?_ | refine cmpN ?_ | (refine cmp_both ?_ ?_ <;> intro _))) | (show wrapK _ _ _; refine wrapA ?_) | (show leK _ _ _; refine leA ?_) | (show roomK _ _ _; refine roomA ?_) | (show ltK _ _ _; refine ltA ?_) | (show _ ∧ _; refine ⟨?_, ?_⟩) | (show keepK _ _ _ _ _; refine keepA ?_) | refine own_keep ?_ | refine ap_old ?_))
    all_goals (conv => whnf)
    all_goals exact ⟨i + 1, [], hlt, by omega, rfl, ⟨rfl, rfl, rfl, rfl, rfl, rfl, trivial⟩, ⟨by rw [hsn]; exact (by repeat (first | exact List.mem_cons_self | apply List.mem_cons_of_mem)), (by repeat (first | exact List.mem_cons_self | apply List.mem_cons_of_mem)), trivial⟩, fun _ _ h => h⟩
  · obtain rfl : i = size := by omega
    have hgr : gridS i ((List.range i).map fun k => ((n.data.xs.getD (o * i + k) 0, (k : Int)) : Sp)) = denseT n o i := by unfold gridS denseT; rw [List.length_map, List.length_range, Nat.sub_self]; simp
    (repeat' ((conv => whnf) <;> first | (show Wp _ _ _ _ _ _ _; refine Wp.go tabOk rfl ?_) | (show @cmpK _ _ _; (first | refine cmpY ?_ | refine cmpN ?_ | (refine cmp_both ?_ ?_ <;> intro _))) | (show wrapK _ _ _; refine wrapA ?_) | (show leK _ _ _; refine leA ?_) | (show roomK _ _ _; refine roomA ?_) | (show ltK _ _ _; refine ltA ?_) | (show _ ∧ _; refine ⟨?_, ?_⟩) | (show keepK _ _ _ _ _; refine keepA ?_) | refine own_keep ?_ | refine ap_old ?_))
    conv => whnf
    exact terms_end hgr (fun _ _ h => h) rfl (by repeat (first | exact List.mem_cons_self | apply List.mem_cons_of_mem)) (by simp [denseT])
end Go.Proofs.YtgndjjdeopfdkaaGreat

/- IQ -/
namespace Go.Proofs.YtgndjjdeopfdkaaGreat
abbrev dtIQ0 : Go.SX.DT := (.take 0 (.take 1 (.take 2 (.take 3 (.take 4 (.take 5 (.take 6 (.take 7 (.take 8 (.take 9 (.take 10 (.take 11 (.take 12 (.take 13 (.take 14 (.take 15 (.take 16 (.take 17 (.take 18 (.take 19 (.take 20 (.take 21 (.take 22 (.take 23 (.take 24 (.take 25 (.take 26 (.take 27 (.take 28 (.take 29 (.take 30 (.take 31 (.take 32 (.take 33 (.take 34 (.take 35 (.take 36 (.take 37 (.take 38 (.one 39 (.one 40 (.take 41 (.done)))))))))))))))))))))))))))))))))))))))))))
open Go.SX Go.RowKit
def convTerm (d : List Int) (k1 k2 k3 i1 i2 o : Int) (i : Nat) : Sp :=
  (d.getD (o / (i2 - k3 + 1) / (i1 - k2 + 1) * k1 * k2 * k3 + i).toNat 0, ((i : Int) / k3 / k2 * i1 + o / (i2 - k3 + 1) % (i1 - k2 + 1) + (i : Int) / k3 % k2) * i2 + o % (i2 - k3 + 1) + (i : Int) % k3)
def convT (d : List Int) (k1 k2 k3 i1 i2 o : Int) : List Sp := (List.range (k1 * k2 * k3).toNat).map (convTerm d k1 k2 k3 i1 i2 o)
structure ConvOk (n : NodeV) (t : IntsV) (k0 k1 k2 k3 i1 i2 o : Int) : Prop where
  h_shape : n.shape.xs = [k0, k1, k2, k3]
  h_inn : ∃ i0, t.xs = [i0, i1, i2]
  h_k1 : 1 ≤ k1 ∧ k1 ≤ 64
  h_k2 : 1 ≤ k2 ∧ k2 ≤ i1
  h_k3 : 1 ≤ k3 ∧ k3 ≤ i2
  h_i1 : i1 ≤ 64
  h_i2 : i2 ≤ 64
  h_data : (n.data.xs.length : Int) = k0 * k1 * k2 * k3
  h_k0 : k0 ≤ 64
  h_o : 0 ≤ o ∧ o ≤ 64
  h_k : o / (i2 - k3 + 1) / (i1 - k2 + 1) < k0
theorem sp_snoc (l : List Sp) (s : Sp) {i m : Nat} {T : TypeId} {H : Heap} (hm : m = l.length) : (i, Ent.rows (spRows (l ++ [s])) 2 T) ∈ (i, Ent.rows (List.take m (spRows l) ++ [[.int .i64 s.1, .int .i64 s.2]]) 2 T) :: H := by
  subst hm
  rw [show spRows (l ++ [s]) = List.take l.length (spRows l) ++ [[.int .i64 s.1, .int .i64 s.2]] by rw [List.take_of_length_le (by rw [spRows_length]; exact Nat.le_refl _)]; simp [spRows]]
  exact List.mem_cons_self
theorem div_bd {x y : Int} (hx : 0 ≤ x) (hy : 0 < y) : 0 ≤ x / y ∧ x / y ≤ x ∧ 0 ≤ x % y ∧ x % y < y := ⟨Int.ediv_nonneg hx (by omega), Int.ediv_le_self y hx, Int.emod_nonneg x (by omega), Int.emod_lt_of_pos x hy⟩
set_option maxRecDepth 20000 in
set_option maxHeartbeats 2000000 in
theorem conv_any (w : World) (n : NodeV) (t : IntsV) (hd : n.data.ok w) (hsh : n.shape.ok w) (ht : t.ok w) (fnV : Value) (c k0 k1 k2 k3 i1 i2 o : Int) (h : ConvOk n t k0 k1 k2 k3 i1 i2 o) : Calls Tryz.prog 105 #[placeV n t.val fnV c, .int .i64 o] w (TermsPost w (convT n.data.xs k1 k2 k3 i1 i2 o)) := by
  obtain ⟨hs, ⟨i0, hi⟩, b1, b2, b3, bi1, bi2, hdl, b0, bo, bk⟩ := h
  obtain ⟨us, hus⟩ := hsh.base (by rw [hs]; simp)
  obtain ⟨ut, hut⟩ := ht.base (by rw [hi]; simp)
  have hsr : ∀ (R : Nat → Prop) w', (baseA w).holds R w' → RowsI w' (some us) 1 (ints [k0, k1, k2, k3]) := fun R w' h => by rw [← hus, ← hs]; exact rows_base h hsh.rows
  have htr : ∀ (R : Nat → Prop) w', (baseA w).holds R w' → RowsI w' (some ut) 1 (ints [i0, i1, i2]) := fun R w' h => by rw [← hut, ← hi]; exact rows_base h ht.rows
  have hsl : n.shape.xs.length = 4 := by rw [hs]; rfl
  have htl : t.xs.length = 3 := by rw [hi]; rfl
  have hW : 0 < i2 - k3 + 1 := by omega
  have hH : 0 < i1 - k2 + 1 := by omega
  obtain ⟨d1, d2, d3, d4⟩ := div_bd bo.1 hW
  obtain ⟨d5, d6, d7, d8⟩ := div_bd d1 hH
  have m12 := mul_bd (x := k1) (y := k2) (A := 64) (B := 64) (by omega) (by omega)
  have m123 := mul_bd (x := k1 * k2) (y := k3) (A := 64 * 64) (B := 64) m12 (by omega)
  have n12 := Int.mul_pos (show 0 < k1 by omega) (show 0 < k2 by omega)
  have n123 := Int.mul_pos n12 (show 0 < k3 by omega)
  obtain ⟨Q, hQ⟩ : ∃ Q : Nat, k1 * k2 * k3 = Q := ⟨(k1 * k2 * k3).toNat, by omega⟩
  have hcT : convT n.data.xs k1 k2 k3 i1 i2 o = (List.range Q).map (convTerm n.data.xs k1 k2 k3 i1 i2 o) := by unfold convT; rw [hQ]; rfl
  rw [hcT]
  refine calls_of tab tabOk Tryz.func105 rfl rfl rfl [] (fun _ => ⟨none, 0⟩) [.agg [.c (.int .i64 n.kind), .c (.int .i64 n.a), .c (.int .i64 n.b), .c n.shape.val, .c (.int .i64 n.lo), .c (.int .i64 n.hi), .c (.int .i64 n.size), .c n.data.val, .c n.bias.val, .c t.val, .c fnV, .c (.int .i64 c)], .c (.int .i64 o)] [] (baseA w) 0 rfl rfl (by show 2 ≤ _; decide) (abs_base w) ?_
  (repeat' ((conv => whnf) <;> first | (show idxK _ _ _ _ _; (first | refine idx_of us 1 hus rfl (by rw [hsl]; decide) ?_ | refine idx_of us 2 hus rfl (by rw [hsl]; decide) ?_ | refine idx_of us 3 hus rfl (by rw [hsl]; decide) ?_ | refine idx_of ut 1 hut rfl (by rw [htl]; decide) ?_ | refine idx_of ut 2 hut rfl (by rw [htl]; decide) ?_)) | (show roK _ _ _; (first | refine ro_row0 hsr [.int .i64 k1] (.int .i64 k1) (j := 1) rfl rfl ?_ | refine ro_row0 hsr [.int .i64 k2] (.int .i64 k2) (j := 2) rfl rfl ?_ | refine ro_row0 hsr [.int .i64 k3] (.int .i64 k3) (j := 3) rfl rfl ?_ | refine ro_row0 htr [.int .i64 i1] (.int .i64 i1) (j := 1) rfl rfl ?_ | refine ro_row0 htr [.int .i64 i2] (.int .i64 i2) (j := 2) rfl rfl ?_)) | (show remK _ _ _; refine rem_pos (by omega) (by omega) ?_) | (show divK _ _ _ _; refine div_pos rfl (by omega) (by omega) (by omega) ?_) | (show drawK _ 10 _ _ _ _ _ _; refine draw_tree tabOk mixed [] _ dtIQ0 (by kernel_rfl) (by kernel_rfl) (by kernel_rfl) (List.Sublist.refl _) ?_) | (show drawK _ _ _ _ _ _ _ _; refine draw_quiet tabOk mixed (by kernel_rfl) ?_) | (show Wp _ _ _ _ _ _ _; refine Wp.go tabOk rfl ?_) | (show @cmpK _ _ _; (first | refine cmpY ?_ | refine cmpN ?_ | (refine cmp_both ?_ ?_ <;> intro _))) | (show wrapK _ _ _; refine wrapA ?_) | (show leK _ _ _; refine leA ?_) | (show roomK _ _ _; refine roomA ?_) | (show ltK _ _ _; refine ltA ?_) | (show _ ∧ _; refine ⟨?_, ?_⟩) | (show keepK _ _ _ _ _; refine keepA ?_) | refine own_keep ?_ | refine ap_old ?_))
  rw [hQ]
  have mK1 := mul_bd (x := o / (i2 - k3 + 1) / (i1 - k2 + 1)) (y := k1) (A := 64) (B := 64) (by omega) (by omega)
  have mK2 := mul_bd (x := o / (i2 - k3 + 1) / (i1 - k2 + 1) * k1) (y := k2) (A := 64 * 64) (B := 64) mK1 (by omega)
  have mK3 := mul_bd (x := o / (i2 - k3 + 1) / (i1 - k2 + 1) * k1 * k2) (y := k3) (A := 64 * 64 * 64) (B := 64) mK2 (by omega)
  have e1 : o / (i2 - k3 + 1) / (i1 - k2 + 1) * k1 * k2 * k3 = o / (i2 - k3 + 1) / (i1 - k2 + 1) * (Q : Int) := by rw [← hQ]; grind
  have e2 : k0 * k1 * k2 * k3 = k0 * (Q : Int) := by rw [← hQ]; grind
  have e3 : (o / (i2 - k3 + 1) / (i1 - k2 + 1) + 1) * (Q : Int) ≤ k0 * (Q : Int) := Int.mul_le_mul_of_nonneg_right (by omega) (by omega)
  rw [Int.add_mul, Int.one_mul] at e3
  have e4 : 0 ≤ o / (i2 - k3 + 1) / (i1 - k2 + 1) * (Q : Int) := Int.mul_nonneg d5 (by omega)
  refine Wp.loop (σ := Nat × Nat) 2 (fun ⟨i, m⟩ => [(2, .lp 0 0 0 0), (5, .c (.int .i64 k2)), (6, .c (.int .i64 k3)), (9, .c (.int .i64 (o % (i2 - k3 + 1)))), (10, .c (.int .i64 (o / (i2 - k3 + 1) % (i1 - k2 + 1)))), (11, .c (.int .i64 (o / (i2 - k3 + 1) / (i1 - k2 + 1)))), (12, .os 1 m), (62, .c (.int .i64 Q)), (63, .c (.int .i64 i))]) (fun ⟨i, m⟩ => [(1, .rows (spRows ((List.range i).map (convTerm n.data.xs k1 k2 k3 i1 i2 o))) 2 152), (0, .box [.c (.int .i64 n.kind), .c (.int .i64 n.a), .c (.int .i64 n.b), .c n.shape.val, .c (.int .i64 n.lo), .c (.int .i64 n.hi), .c (.int .i64 n.size), .c n.data.val, .c n.bias.val, .c t.val, .c fnV, .c (.int .i64 c)] 104)]) (fun _ => baseA w)
    (fun ⟨i, m⟩ => i ≤ Q ∧ m = i) (fun s => Q - s.1) (0, 0) [(1, none)] (by decide) (fun s => ⟨rfl, rfl⟩) ⟨Nat.zero_le _, rfl⟩ ⟨rfl, ⟨rfl, rfl, rfl, rfl, rfl, rfl, rfl, rfl, rfl, trivial⟩, ⟨rfl, (by repeat (first | exact List.mem_cons_self | apply List.mem_cons_of_mem)), trivial⟩, fun _ _ h => h⟩ ?_
  rintro ⟨i, m⟩ ⟨hiQ, hmi⟩
  subst hmi
  have hil : ((List.range m).map (convTerm n.data.xs k1 k2 k3 i1 i2 o)).length = m := by simp
  by_cases hlt : m < Q
  · have hsn : (List.range (m + 1)).map (convTerm n.data.xs k1 k2 k3 i1 i2 o) = (List.range m).map (convTerm n.data.xs k1 k2 k3 i1 i2 o) ++ [convTerm n.data.xs k1 k2 k3 i1 i2 o m] := by rw [List.range_succ, List.map_append]; rfl
    obtain ⟨c1, c2, c3, c4⟩ := div_bd (x := (m : Int)) (y := k3) (by omega) (by omega)
    obtain ⟨c5, c6, c7, c8⟩ := div_bd (x := (m : Int) / k3) (y := k2) c1 (by omega)
    have p1 := mul_bd (x := (m : Int) / k3 / k2) (y := i1) (A := 262144) (B := 64) (by omega) (by omega)
    have p2 := mul_bd (x := (m : Int) / k3 / k2 * i1 + o / (i2 - k3 + 1) % (i1 - k2 + 1) + (m : Int) / k3 % k2) (y := i2) (A := 16777400) (B := 64) (by omega) (by omega)
    obtain ⟨ud, hud⟩ := hd.base (by omega)
    have hdr : ∀ (R : Nat → Prop) w', (baseA w).holds R w' → RowsI w' (some ud) 1 (ints n.data.xs) := fun R w' h => by rw [← hud]; exact rows_base h hd.rows
    (repeat' ((conv => whnf) <;> first | (show keepK _ _ _ _ _; (refine keep_of (by repeat (first | exact List.Sublist.refl _ | exact List.nil_sublist _ | apply List.Sublist.cons_cons | apply List.Sublist.cons)) (fun _ _ h => h) ?_)) | (show drawK _ 10 _ _ _ _ _ _; (refine draw_tree tabOk mixed [] [(0, .box [.c (.int .i64 n.kind), .c (.int .i64 n.a), .c (.int .i64 n.b), .c n.shape.val, .c (.int .i64 n.lo), .c (.int .i64 n.hi), .c (.int .i64 n.size), .c n.data.val, .c n.bias.val, .c t.val, .c fnV, .c (.int .i64 c)] 104)] (.take 0 (.take 1 (.take 2 (.take 3 (.take 4 (.take 5 (.take 6 (.take 7 (.take 8 (.take 9 (.take 10 (.take 11 (.take 12 (.take 13 (.take 14 (.take 15 (.take 16 (.take 17 (.take 18 (.take 19 (.take 20 (.take 21 (.take 22 (.take 23 (.take 24 (.take 25 (.take 26 (.take 27 (.take 28 (.take 29 (.take 30 (.take 31 (.take 32 (.take 33 (.take 34 (.take 35 (.take 36 (.take 37 (.take 38 (.one 39 (.one 40 (.take 41 (.done))))))))))))))))))))))))))))))))))))))))))) (by kernel_rfl) (by kernel_rfl) (by kernel_rfl) (by repeat (first | exact List.Sublist.refl _ | exact List.nil_sublist _ | apply List.Sublist.cons_cons | apply List.Sublist.cons)) ?_)) | (show idxK _ _ _ _ _; (first | refine idx_of us 1 hus rfl (by rw [hsl]; decide) ?_ | refine idx_of us 2 hus rfl (by rw [hsl]; decide) ?_ | refine idx_of us 3 hus rfl (by rw [hsl]; decide) ?_ | refine idx_of ut 1 hut rfl (by rw [htl]; decide) ?_ | refine idx_of ut 2 hut rfl (by rw [htl]; decide) ?_)) | (show roK _ _ _; (first | refine ro_row0 hsr [.int .i64 k1] (.int .i64 k1) (j := 1) rfl rfl ?_ | refine ro_row0 hsr [.int .i64 k2] (.int .i64 k2) (j := 2) rfl rfl ?_ | refine ro_row0 hsr [.int .i64 k3] (.int .i64 k3) (j := 3) rfl rfl ?_ | refine ro_row0 htr [.int .i64 i1] (.int .i64 i1) (j := 1) rfl rfl ?_ | refine ro_row0 htr [.int .i64 i2] (.int .i64 i2) (j := 2) rfl rfl ?_)) | (show idxK _ _ _ _ _; refine idx_z hud (by omega) (by omega) ?_) | (show roK _ _ _; refine ro_int hdr (j := (o / (i2 - k3 + 1) / (i1 - k2 + 1) * k1 * k2 * k3 + (m : Int)).toNat) (by omega) ?_) | (show remK _ _ _; refine rem_pos (by omega) (by omega) ?_) | (show divK _ _ _ _; refine div_pos rfl (by omega) (by omega) (by omega) ?_) | (show leK _ _ _; (refine le_of (by rw [spRows_length, hil]; exact Nat.le_refl _) ?_)) | (show roomK _ _ _; (refine room_of (by show (m + 1) * 16 ≤ 140737488355328; omega) ?_)) | (show drawK _ _ _ _ _ _ _ _; refine draw_quiet tabOk mixed (by kernel_rfl) ?_) | (show Wp _ _ _ _ _ _ _; refine Wp.go tabOk rfl ?_) | (show @cmpK _ _ _; (first | refine cmpY ?_ | refine cmpN ?_ | (refine cmp_both ?_ ?_ <;> intro _))) | (show wrapK _ _ _; refine wrapA ?_) | (show leK _ _ _; refine leA ?_) | (show roomK _ _ _; refine roomA ?_) | (show ltK _ _ _; refine ltA ?_) | (show _ ∧ _; refine ⟨?_, ?_⟩) | (show keepK _ _ _ _ _; refine keepA ?_) | refine own_keep ?_ | refine ap_old ?_))
    all_goals (conv => whnf)
    all_goals exact ⟨(m + 1, m + 1), [(1, some 3)], ⟨hlt, rfl⟩, by simp only; omega, rfl, ⟨rfl, rfl, rfl, rfl, rfl, rfl, rfl, rfl, rfl, trivial⟩, ⟨by
      show (3, Ent.rows (spRows ((List.range (m + 1)).map (convTerm n.data.xs k1 k2 k3 i1 i2 o))) 2 152) ∈ _
      rw [hsn]; exact sp_snoc _ _ hil.symm, (by repeat (first | exact List.mem_cons_self | apply List.mem_cons_of_mem)), trivial⟩, fun _ _ h => h⟩
  · obtain rfl : m = Q := by omega
    (repeat' ((conv => whnf) <;> first | (show drawK _ 10 _ _ _ _ _ _; refine draw_tree tabOk mixed [] _ dtIQ0 (by kernel_rfl) (by kernel_rfl) (by kernel_rfl) (List.Sublist.refl _) ?_) | (show drawK _ _ _ _ _ _ _ _; refine draw_quiet tabOk mixed (by kernel_rfl) ?_) | (show Wp _ _ _ _ _ _ _; refine Wp.go tabOk rfl ?_) | (show @cmpK _ _ _; (first | refine cmpY ?_ | refine cmpN ?_ | (refine cmp_both ?_ ?_ <;> intro _))) | (show wrapK _ _ _; refine wrapA ?_) | (show leK _ _ _; refine leA ?_) | (show roomK _ _ _; refine roomA ?_) | (show ltK _ _ _; refine ltA ?_) | (show _ ∧ _; refine ⟨?_, ?_⟩) | (show keepK _ _ _ _ _; refine keepA ?_) | refine own_keep ?_ | refine ap_old ?_))
    conv => whnf
    exact terms_end rfl (fun _ _ h => h) rfl (by repeat (first | exact List.mem_cons_self | apply List.mem_cons_of_mem)) hil.symm
end Go.Proofs.YtgndjjdeopfdkaaGreat

/- IR -/
namespace Go.Proofs.YtgndjjdeopfdkaaGreat
abbrev dtIR0 : Go.SX.DT := (.take 0 (.take 1 (.take 2 (.take 3 (.take 4 (.take 5 (.take 6 (.take 7 (.take 8 (.take 9 (.take 10 (.take 11 (.take 12 (.take 13 (.take 14 (.take 15 (.take 16 (.take 17 (.take 18 (.take 19 (.take 20 (.take 21 (.take 22 (.take 23 (.take 24 (.take 25 (.take 26 (.take 27 (.take 28 (.take 29 (.take 30 (.take 31 (.take 32 (.take 33 (.take 34 (.take 35 (.take 36 (.one 37 (.one 38 (.take 39 (.done)))))))))))))))))))))))))))))))))))))))))
open Go.SX Go.RowKit
def poolTerm (z i1 i2 o : Int) (i : Nat) : Sp :=
  (1, (o / (i2 / z) / (i1 / z) * i1 + o / (i2 / z) % (i1 / z) * z + (i : Int) / z) * i2 + o % (i2 / z) * z + (i : Int) % z)
def poolT (z i1 i2 o : Int) : List Sp := (List.range (z * z).toNat).map (poolTerm z i1 i2 o)
structure PoolOk (n : NodeV) (t : IntsV) (i1 i2 o : Int) : Prop where
  h_inn : ∃ i0, t.xs = [i0, i1, i2]
  h_z1 : 1 ≤ n.size ∧ n.size ≤ i1
  h_z2 : n.size ≤ i2
  h_i1 : i1 ≤ 64
  h_i2 : i2 ≤ 64
  h_o : 0 ≤ o ∧ o ≤ 64
theorem div_pos1 {x y : Int} (hy : 0 < y) (h : y ≤ x) : 1 ≤ x / y := by
  have := Int.ediv_le_ediv hy h
  rwa [Int.ediv_self (by omega)] at this
set_option maxRecDepth 20000 in
set_option maxHeartbeats 2000000 in
theorem pool_any (w : World) (n : NodeV) (t : IntsV) (ht : t.ok w) (fnV : Value) (c i1 i2 o : Int) (h : PoolOk n t i1 i2 o) : Calls Tryz.prog 106 #[placeV n t.val fnV c, .int .i64 o] w (TermsPost w (poolT n.size i1 i2 o)) := by
  obtain ⟨⟨i0, hi⟩, bz1, bz2, bi1, bi2, bo⟩ := h
  obtain ⟨ut, hut⟩ := ht.base (by rw [hi]; simp)
  have htr : ∀ (R : Nat → Prop) w', (baseA w).holds R w' → RowsI w' (some ut) 1 (ints [i0, i1, i2]) := fun R w' h => by rw [← hut, ← hi]; exact rows_base h ht.rows
  have htl : t.xs.length = 3 := by rw [hi]; rfl
  have hW := div_pos1 (x := i2) (y := n.size) (by omega) bz2
  have hH := div_pos1 (x := i1) (y := n.size) (by omega) bz1.2
  obtain ⟨a1, a2, _, _⟩ := div_bd (x := i2) (y := n.size) (by omega) (by omega)
  obtain ⟨a5, a6, _, _⟩ := div_bd (x := i1) (y := n.size) (by omega) (by omega)
  obtain ⟨d1, d2, d3, d4⟩ := div_bd (x := o) (y := i2 / n.size) bo.1 (by omega)
  obtain ⟨d5, d6, d7, d8⟩ := div_bd (x := o / (i2 / n.size)) (y := i1 / n.size) d1 (by omega)
  have m1 := mul_bd (x := n.size) (y := n.size) (A := 64) (B := 64) (by omega) (by omega)
  have m2 := Int.mul_pos (show 0 < n.size by omega) (show 0 < n.size by omega)
  have m3 := mul_bd (x := o / (i2 / n.size) / (i1 / n.size)) (y := i1) (A := 64) (B := 64) (by omega) (by omega)
  have m4 := mul_bd (x := o / (i2 / n.size) % (i1 / n.size)) (y := n.size) (A := 64) (B := 64) (by omega) (by omega)
  have m5 := mul_bd (x := o % (i2 / n.size)) (y := n.size) (A := 64) (B := 64) (by omega) (by omega)
  obtain ⟨Q, hQ⟩ : ∃ Q : Nat, n.size * n.size = Q := ⟨(n.size * n.size).toNat, by omega⟩
  have hcT : poolT n.size i1 i2 o = (List.range Q).map (poolTerm n.size i1 i2 o) := by unfold poolT; rw [hQ]; rfl
  rw [hcT]
  refine calls_of tab tabOk Tryz.func106 rfl rfl rfl [] (fun _ => ⟨none, 0⟩) [.agg [.c (.int .i64 n.kind), .c (.int .i64 n.a), .c (.int .i64 n.b), .c n.shape.val, .c (.int .i64 n.lo), .c (.int .i64 n.hi), .c (.int .i64 n.size), .c n.data.val, .c n.bias.val, .c t.val, .c fnV, .c (.int .i64 c)], .c (.int .i64 o)] [] (baseA w) 0 rfl rfl (by show 2 ≤ _; decide) (abs_base w) ?_
  (repeat' ((conv => whnf) <;> first | (show idxK _ _ _ _ _; (first | refine idx_of ut 1 hut rfl (by rw [htl]; decide) ?_ | refine idx_of ut 2 hut rfl (by rw [htl]; decide) ?_)) | (show roK _ _ _; (first | refine ro_row0 htr [.int .i64 i1] (.int .i64 i1) (j := 1) rfl rfl ?_ | refine ro_row0 htr [.int .i64 i2] (.int .i64 i2) (j := 2) rfl rfl ?_)) | (show remK _ _ _; refine rem_pos (by omega) (by omega) ?_) | (show divK _ _ _ _; refine div_pos rfl (by omega) (by omega) (by omega) ?_) | (show drawK _ 7 _ _ _ _ _ _; refine draw_tree tabOk mixed [] _ dtIR0 (by kernel_rfl) (by kernel_rfl) (by kernel_rfl) (List.Sublist.refl _) ?_) | (show drawK _ _ _ _ _ _ _ _; refine draw_quiet tabOk mixed (by kernel_rfl) ?_) | (show Wp _ _ _ _ _ _ _; refine Wp.go tabOk rfl ?_) | (show @cmpK _ _ _; (first | refine cmpY ?_ | refine cmpN ?_ | (refine cmp_both ?_ ?_ <;> intro _))) | (show wrapK _ _ _; refine wrapA ?_) | (show leK _ _ _; refine leA ?_) | (show roomK _ _ _; refine roomA ?_) | (show ltK _ _ _; refine ltA ?_) | (show _ ∧ _; refine ⟨?_, ?_⟩) | (show keepK _ _ _ _ _; refine keepA ?_) | refine own_keep ?_ | refine ap_old ?_))
  rw [hQ]
  refine Wp.loop (σ := Nat × Nat) 2 (fun ⟨i, m⟩ => [(2, .lp 0 0 0 0), (7, .c (.int .i64 (o % (i2 / n.size)))), (8, .c (.int .i64 (o / (i2 / n.size) % (i1 / n.size)))), (9, .c (.int .i64 (o / (i2 / n.size) / (i1 / n.size)))), (10, .os 1 m), (47, .c (.int .i64 Q)), (48, .c (.int .i64 i))]) (fun ⟨i, m⟩ => [(1, .rows (spRows ((List.range i).map (poolTerm n.size i1 i2 o))) 2 152), (0, .box [.c (.int .i64 n.kind), .c (.int .i64 n.a), .c (.int .i64 n.b), .c n.shape.val, .c (.int .i64 n.lo), .c (.int .i64 n.hi), .c (.int .i64 n.size), .c n.data.val, .c n.bias.val, .c t.val, .c fnV, .c (.int .i64 c)] 104)]) (fun _ => baseA w)
    (fun ⟨i, m⟩ => i ≤ Q ∧ m = i) (fun s => Q - s.1) (0, 0) [(1, none)] (by decide) (fun s => ⟨rfl, rfl⟩) ⟨Nat.zero_le _, rfl⟩ ⟨rfl, ⟨rfl, rfl, rfl, rfl, rfl, rfl, rfl, trivial⟩, ⟨rfl, (by repeat (first | exact List.mem_cons_self | apply List.mem_cons_of_mem)), trivial⟩, fun _ _ h => h⟩ ?_
  rintro ⟨i, m⟩ ⟨hiQ, hmi⟩
  subst hmi
  have hil : ((List.range m).map (poolTerm n.size i1 i2 o)).length = m := by simp
  by_cases hlt : m < Q
  · have hsn : (List.range (m + 1)).map (poolTerm n.size i1 i2 o) = (List.range m).map (poolTerm n.size i1 i2 o) ++ [poolTerm n.size i1 i2 o m] := by rw [List.range_succ, List.map_append]; rfl
    obtain ⟨c1, c2, c3, c4⟩ := div_bd (x := (m : Int)) (y := n.size) (by omega) (by omega)
    have p2 := mul_bd (x := o / (i2 / n.size) / (i1 / n.size) * i1 + o / (i2 / n.size) % (i1 / n.size) * n.size + (m : Int) / n.size) (y := i2) (A := 100000) (B := 64) (by omega) (by omega)
    (repeat' ((conv => whnf) <;> first | (show keepK _ _ _ _ _; (refine keep_of (by repeat (first | exact List.Sublist.refl _ | exact List.nil_sublist _ | apply List.Sublist.cons_cons | apply List.Sublist.cons)) (fun _ _ h => h) ?_)) | (show drawK _ 7 _ _ _ _ _ _; (refine draw_tree tabOk mixed [] [(0, .box [.c (.int .i64 n.kind), .c (.int .i64 n.a), .c (.int .i64 n.b), .c n.shape.val, .c (.int .i64 n.lo), .c (.int .i64 n.hi), .c (.int .i64 n.size), .c n.data.val, .c n.bias.val, .c t.val, .c fnV, .c (.int .i64 c)] 104)] (.take 0 (.take 1 (.take 2 (.take 3 (.take 4 (.take 5 (.take 6 (.take 7 (.take 8 (.take 9 (.take 10 (.take 11 (.take 12 (.take 13 (.take 14 (.take 15 (.take 16 (.take 17 (.take 18 (.take 19 (.take 20 (.take 21 (.take 22 (.take 23 (.take 24 (.take 25 (.take 26 (.take 27 (.take 28 (.take 29 (.take 30 (.take 31 (.take 32 (.take 33 (.take 34 (.take 35 (.take 36 (.one 37 (.one 38 (.take 39 (.done))))))))))))))))))))))))))))))))))))))))) (by kernel_rfl) (by kernel_rfl) (by kernel_rfl) (by repeat (first | exact List.Sublist.refl _ | exact List.nil_sublist _ | apply List.Sublist.cons_cons | apply List.Sublist.cons)) ?_)) | (show idxK _ _ _ _ _; (first | refine idx_of ut 1 hut rfl (by rw [htl]; decide) ?_ | refine idx_of ut 2 hut rfl (by rw [htl]; decide) ?_)) | (show roK _ _ _; (first | refine ro_row0 htr [.int .i64 i1] (.int .i64 i1) (j := 1) rfl rfl ?_ | refine ro_row0 htr [.int .i64 i2] (.int .i64 i2) (j := 2) rfl rfl ?_)) | (show remK _ _ _; refine rem_pos (by omega) (by omega) ?_) | (show divK _ _ _ _; refine div_pos rfl (by omega) (by omega) (by omega) ?_) | (show leK _ _ _; (refine le_of (by rw [spRows_length, hil]; exact Nat.le_refl _) ?_)) | (show roomK _ _ _; (refine room_of (by show (m + 1) * 16 ≤ 140737488355328; omega) ?_)) | (show drawK _ _ _ _ _ _ _ _; refine draw_quiet tabOk mixed (by kernel_rfl) ?_) | (show Wp _ _ _ _ _ _ _; refine Wp.go tabOk rfl ?_) | (show @cmpK _ _ _; (first | refine cmpY ?_ | refine cmpN ?_ | (refine cmp_both ?_ ?_ <;> intro _))) | (show wrapK _ _ _; refine wrapA ?_) | (show leK _ _ _; refine leA ?_) | (show roomK _ _ _; refine roomA ?_) | (show ltK _ _ _; refine ltA ?_) | (show _ ∧ _; refine ⟨?_, ?_⟩) | (show keepK _ _ _ _ _; refine keepA ?_) | refine own_keep ?_ | refine ap_old ?_))
    all_goals (conv => whnf)
    all_goals exact ⟨(m + 1, m + 1), [(1, some 3)], ⟨hlt, rfl⟩, by simp only; omega, rfl, ⟨rfl, rfl, rfl, rfl, rfl, rfl, rfl, trivial⟩, ⟨by
      show (3, Ent.rows (spRows ((List.range (m + 1)).map (poolTerm n.size i1 i2 o))) 2 152) ∈ _
      rw [hsn]; exact sp_snoc _ _ hil.symm, (by repeat (first | exact List.mem_cons_self | apply List.mem_cons_of_mem)), trivial⟩, fun _ _ h => h⟩
  · obtain rfl : m = Q := by omega
    (repeat' ((conv => whnf) <;> first | (show drawK _ 7 _ _ _ _ _ _; refine draw_tree tabOk mixed [] _ dtIR0 (by kernel_rfl) (by kernel_rfl) (by kernel_rfl) (List.Sublist.refl _) ?_) | (show drawK _ _ _ _ _ _ _ _; refine draw_quiet tabOk mixed (by kernel_rfl) ?_) | (show Wp _ _ _ _ _ _ _; refine Wp.go tabOk rfl ?_) | (show @cmpK _ _ _; (first | refine cmpY ?_ | refine cmpN ?_ | (refine cmp_both ?_ ?_ <;> intro _))) | (show wrapK _ _ _; refine wrapA ?_) | (show leK _ _ _; refine leA ?_) | (show roomK _ _ _; refine roomA ?_) | (show ltK _ _ _; refine ltA ?_) | (show _ ∧ _; refine ⟨?_, ?_⟩) | (show keepK _ _ _ _ _; refine keepA ?_) | refine own_keep ?_ | refine ap_old ?_))
    conv => whnf
    exact terms_end rfl (fun _ _ h => h) rfl (by repeat (first | exact List.mem_cons_self | apply List.mem_cons_of_mem)) hil.symm
end Go.Proofs.YtgndjjdeopfdkaaGreat

/- IS -/
namespace Go.Proofs.YtgndjjdeopfdkaaGreat
open Go.SX Go.RowKit
theorem div_to {x y q : Int} {K : Int → Prop} (e : x / y = q) (h0 : 0 ≤ x) (h1 : x ≤ 9223372036854775807) (hy : 0 < y) (h : K q) : divK .i64 x y K := by
  subst e; exact div_pos rfl h0 h1 hy h
def biasI (n : NodeV) (cnt o : Nat) : Int := if n.kind = 3 then n.bias.xs.getD o 0 else if n.kind = 4 then n.bias.xs.getD (o / (cnt / n.bias.xs.length)) 0 else 0
set_option maxRecDepth 20000 in
theorem bias_any (w : World) (n : NodeV) (hb : n.bias.ok w) (hk : n.kind = 3 ∨ n.kind = 4 ∨ n.kind = 5) (inV fnV : Value) (cnt o : Nat) (hc : cnt ≤ 64) (ho : o < cnt) (h3 : n.kind = 3 → n.bias.xs.length = cnt) (h4 : n.kind = 4 → 1 ≤ n.bias.xs.length ∧ n.bias.xs.length ≤ cnt ∧ o / (cnt / n.bias.xs.length) < n.bias.xs.length) : Calls Tryz.prog 108 #[placeV n inV fnV cnt, .int .i64 o] w fun e w' => e = .returned (.int .i64 (biasI n cnt o)) ∧ Ext w w' := by
  have hfew := hb.few
  rcases hk with hk | hk | hk
  · have hB : biasI n cnt o = n.bias.xs.getD o 0 := if_pos hk
    rw [hB]
    have hl := h3 hk
    obtain ⟨ua, hua⟩ := hb.base (by omega)
    have hur : ∀ (R : Nat → Prop) w', (baseA w).holds R w' → RowsI w' (some ua) 1 (ints n.bias.xs) := fun R w' h => by rw [← hua]; exact rows_base h hb.rows
    refine calls_of tab tabOk Tryz.func108 rfl rfl rfl [] (fun _ => ⟨none, 0⟩) [.agg [.c (.int .i64 n.kind), .c (.int .i64 n.a), .c (.int .i64 n.b), .c n.shape.val, .c (.int .i64 n.lo), .c (.int .i64 n.hi), .c (.int .i64 n.size), .c n.data.val, .c n.bias.val, .c inV, .c fnV, .c (.int .i64 (cnt : Int))], .c (.int .i64 o)] [] (baseA w) 0 rfl rfl (by show 2 ≤ _; decide) (abs_base w) ?_
    (repeat' ((conv => whnf) <;> first | (show idxK _ _ _ _ _; refine idx_of _ o hua rfl (by omega) ?_) | (show roK _ _ _; refine ro_int hur (j := o) (by omega) ?_) | (show drawK _ _ _ _ _ _ _ _; refine draw_quiet tabOk mixed (by kernel_rfl) ?_) | (show Wp _ _ _ _ _ _ _; refine Wp.go tabOk rfl ?_) | (show @cmpK _ _ _; (first | refine cmpY ?_ | refine cmpN ?_ | (refine cmp_both ?_ ?_ <;> intro _))) | (show wrapK _ _ _; refine wrapA ?_) | (show leK _ _ _; refine leA ?_) | (show roomK _ _ _; refine roomA ?_) | (show ltK _ _ _; refine ltA ?_) | (show _ ∧ _; refine ⟨?_, ?_⟩) | (show keepK _ _ _ _ _; refine keepA ?_) | refine own_keep ?_ | refine ap_old ?_))
    conv => whnf
    exact ends_of (fun _ _ h => h) (fun _ => rfl) rfl
  · have hB : biasI n cnt o = n.bias.xs.getD (o / (cnt / n.bias.xs.length)) 0 := by unfold biasI; rw [if_neg (by omega), if_pos hk]
    rw [hB]
    obtain ⟨h5, h6, h7⟩ := h4 hk
    obtain ⟨ua, hua⟩ := hb.base (by omega)
    have hur : ∀ (R : Nat → Prop) w', (baseA w).holds R w' → RowsI w' (some ua) 1 (ints n.bias.xs) := fun R w' h => by rw [← hua]; exact rows_base h hb.rows
    have e1 : (cnt : Int) / n.bias.xs.length = ((cnt / n.bias.xs.length : Nat) : Int) := by rw [Int.natCast_ediv]
    have hd : 1 ≤ cnt / n.bias.xs.length := (Nat.one_le_div_iff (by omega)).2 h6
    have hdl : cnt / n.bias.xs.length ≤ cnt := Nat.div_le_self _ _
    have e2 : (o : Int) / ((cnt / n.bias.xs.length : Nat) : Int) = ((o / (cnt / n.bias.xs.length) : Nat) : Int) := (Int.natCast_ediv o (cnt / n.bias.xs.length)).symm
    obtain ⟨q, hq⟩ : ∃ q, o / (cnt / n.bias.xs.length) = q := ⟨_, rfl⟩
    obtain ⟨p, hp⟩ : ∃ p, cnt / n.bias.xs.length = p := ⟨_, rfl⟩
    rw [hq] at e2 h7 ⊢
    rw [hp] at e1 e2 hd hdl
    refine calls_of tab tabOk Tryz.func108 rfl rfl rfl [] (fun _ => ⟨none, 0⟩) [.agg [.c (.int .i64 n.kind), .c (.int .i64 n.a), .c (.int .i64 n.b), .c n.shape.val, .c (.int .i64 n.lo), .c (.int .i64 n.hi), .c (.int .i64 n.size), .c n.data.val, .c n.bias.val, .c inV, .c fnV, .c (.int .i64 (cnt : Int))], .c (.int .i64 o)] [] (baseA w) 0 rfl rfl (by show 2 ≤ _; decide) (abs_base w) ?_
    (repeat' ((conv => whnf) <;> first | (show idxK _ _ _ _ _; refine idx_of _ q hua rfl (by omega) ?_) | (show roK _ _ _; refine ro_int hur (j := q) (by omega) ?_) | (show divK _ _ _ _; (first | refine div_to e1 (by omega) (by omega) (by omega) ?_ | refine div_to e2 (by omega) (by omega) (by omega) ?_)) | (show drawK _ _ _ _ _ _ _ _; refine draw_quiet tabOk mixed (by kernel_rfl) ?_) | (show Wp _ _ _ _ _ _ _; refine Wp.go tabOk rfl ?_) | (show @cmpK _ _ _; (first | refine cmpY ?_ | refine cmpN ?_ | (refine cmp_both ?_ ?_ <;> intro _))) | (show wrapK _ _ _; refine wrapA ?_) | (show leK _ _ _; refine leA ?_) | (show roomK _ _ _; refine roomA ?_) | (show ltK _ _ _; refine ltA ?_) | (show _ ∧ _; refine ⟨?_, ?_⟩) | (show keepK _ _ _ _ _; refine keepA ?_) | refine own_keep ?_ | refine ap_old ?_))
    all_goals (conv => whnf)
    all_goals exact ends_of (fun _ _ h => h) (fun _ => rfl) rfl
  · have hB : biasI n cnt o = 0 := by unfold biasI; rw [if_neg (by omega), if_neg (by omega)]
    rw [hB]
    refine calls_of tab tabOk Tryz.func108 rfl rfl rfl [] (fun _ => ⟨none, 0⟩) [.agg [.c (.int .i64 n.kind), .c (.int .i64 n.a), .c (.int .i64 n.b), .c n.shape.val, .c (.int .i64 n.lo), .c (.int .i64 n.hi), .c (.int .i64 n.size), .c n.data.val, .c n.bias.val, .c inV, .c fnV, .c (.int .i64 (cnt : Int))], .c (.int .i64 o)] [] (baseA w) 0 rfl rfl (by show 2 ≤ _; decide) (abs_base w) ?_
    (repeat' ((conv => whnf) <;> first | (show drawK _ _ _ _ _ _ _ _; refine draw_quiet tabOk mixed (by kernel_rfl) ?_) | (show Wp _ _ _ _ _ _ _; refine Wp.go tabOk rfl ?_) | (show @cmpK _ _ _; (first | refine cmpY ?_ | refine cmpN ?_ | (refine cmp_both ?_ ?_ <;> intro _))) | (show wrapK _ _ _; refine wrapA ?_) | (show leK _ _ _; refine leA ?_) | (show roomK _ _ _; refine roomA ?_) | (show ltK _ _ _; refine ltA ?_) | (show _ ∧ _; refine ⟨?_, ?_⟩) | (show keepK _ _ _ _ _; refine keepA ?_) | refine own_keep ?_ | refine ap_old ?_))
    conv => whnf
    exact ends_of (fun _ _ h => h) (fun _ => rfl) rfl
def fLo (a : Sp) (s : Int) (t : Sp) : Int := s + min (t.1 * a.1) (t.1 * a.2)
def fHi (a : Sp) (s : Int) (t : Sp) : Int := s + max (t.1 * a.1) (t.1 * a.2)
def linPre (n : NodeV) (cnt k : Nat) (T : Nat → List Sp) (a : Sp) : List Int := (List.range k).flatMap fun o => [(T o).foldl (fLo a) (biasI n cnt o), (T o).foldl (fHi a) (biasI n cnt o)]
def linEnds (n : NodeV) (cnt : Nat) (T : Nat → List Sp) (a : Sp) : List Int := linPre n cnt cnt T a
theorem linPre_snoc (n : NodeV) (cnt k : Nat) (T : Nat → List Sp) (a : Sp) : linPre n cnt (k + 1) T a = linPre n cnt k T a ++ [(T k).foldl (fLo a) (biasI n cnt k), (T k).foldl (fHi a) (biasI n cnt k)] := by
  unfold linPre; rw [List.range_succ, List.flatMap_append]; simp
theorem linPre_len (n : NodeV) (cnt : Nat) (T : Nat → List Sp) (a : Sp) : ∀ k, (linPre n cnt k T a).length = 2 * k
  | 0 => rfl
  | k + 1 => by rw [linPre_snoc, List.length_append, linPre_len n cnt T a k]; rfl
theorem fold_snoc {f : Int → Sp → Int} {s : Int} {l : List Sp} {j : Nat} (h : j < l.length) : (l.take (j + 1)).foldl f s = f ((l.take j).foldl f s) l[j] := by
  rw [List.take_succ_eq_append_getElem h, List.foldl_append]; rfl
theorem ints_two (l : List Int) (x y : Int) {i m : Nat} {T : TypeId} {H : Heap} (hm : m = l.length) : (i, Ent.rows (ints (l ++ [x, y])) 1 T) ∈ (i, Ent.rows (List.take m (ints l) ++ [[.int .i64 x], [.int .i64 y]]) 1 T) :: H := by
  subst hm
  rw [show ints (l ++ [x, y]) = List.take l.length (ints l) ++ [[.int .i64 x], [.int .i64 y]] by rw [List.take_of_length_le (by rw [ints_length]; exact Nat.le_refl _)]; simp [ints]]
  exact List.mem_cons_self
/-- what is known of the closure that tells terms -/
structure TermsOk (w : World) (F : FuncId) (P0 : Value) (cnt : Nat) (T : Nat → List Sp) : Prop where
  enter : ∀ ar w, (callFunc F ar).run Tryz.prog w = .ok (.enter F ar) w
  calls : ∀ R w', (baseA w).holds R w' → ∀ o, o < cnt → Calls Tryz.prog F #[P0, .int .i64 o] w' (TermsPost w' (T o))
  few : ∀ o, o < cnt → (T o).length ≤ 64
  bd : ∀ o, o < cnt → ∀ s ∈ T o, bd20 s.1
structure LinOk (w : World) (n : NodeV) (cnt : Nat) : Prop where
  kind : n.kind = 3 ∨ n.kind = 4 ∨ n.kind = 5
  bias : n.bias.ok w
  biasBd : ∀ x ∈ n.bias.xs, bd20 x
  few : cnt ≤ 64
  three : n.kind = 3 → n.bias.xs.length = cnt
  four : n.kind = 4 → 1 ≤ n.bias.xs.length ∧ n.bias.xs.length ≤ cnt ∧ ∀ o, o < cnt → o / (cnt / n.bias.xs.length) < n.bias.xs.length
theorem biasI_bd {w : World} {n : NodeV} {cnt : Nat} (h : LinOk w n cnt) (o : Nat) : bd20 (biasI n cnt o) := by
  unfold biasI
  split
  · exact getD_bd h.biasBd _
  · split
    · exact getD_bd h.biasBd _
    · exact ⟨by decide, by decide⟩
theorem lin_bd {a : Sp} (ha : bd20 a.1 ∧ bd20 a.2) : ∀ {l : List Sp} {s : Int}, (∀ t ∈ l, bd20 t.1) → (s - l.length * 1099511627776 ≤ l.foldl (fLo a) s ∧ l.foldl (fLo a) s ≤ s + l.length * 1099511627776) ∧ (s - l.length * 1099511627776 ≤ l.foldl (fHi a) s ∧ l.foldl (fHi a) s ≤ s + l.length * 1099511627776)
  | [], s, _ => by simp
  | t :: r, s, h => by
    have h1 := mul_bd (A := 1048576) (B := 1048576) (h t List.mem_cons_self) ha.1
    have h2 := mul_bd (A := 1048576) (B := 1048576) (h t List.mem_cons_self) ha.2
    have g1 := lin_bd ha (l := r) (s := fLo a s t) (fun x hx => h x (List.mem_cons_of_mem _ hx))
    have g2 := lin_bd ha (l := r) (s := fHi a s t) (fun x hx => h x (List.mem_cons_of_mem _ hx))
    have e1 : fLo a s t = s + min (t.1 * a.1) (t.1 * a.2) := rfl
    have e2 : fHi a s t = s + max (t.1 * a.1) (t.1 * a.2) := rfl
    simp only [List.foldl_cons, List.length_cons]
    omega
theorem call_terms {B : Base} {m : Nat} {F : FuncId} {args : List SV} {H : Heap} {S : Asn} {nx : Nat} {K : SV → Heap → Asn → Nat → Prop} (T : List Sp) (hf : ∀ ar w, (callFunc F ar).run Tryz.prog w = .ok (.enter F ar) w)
    (hc : ∀ ρ w, Abs B ρ nx H S w → Calls Tryz.prog F (SV.rfs ρ args).toArray w (TermsPost w T)) (h : K (.os nx T.length) ((nx, .rows (spRows T) 2 152) :: H) S (nx + 1)) : callK ⟨Tryz.prog, B, m, tab⟩ F args H S nx K := by
  refine call_new hf 2 152 (fun _ : Unit => spRows T) (fun _ => True) (fun ρ w hw => (hc ρ w hw).mono ?_) (fun _ _ => ?_)
  · rintro e w' ⟨v, h1, h2, h3⟩
    exact ⟨(), trivial, v, h1, h2, h3⟩
  · rw [spRows_length]; exact h
set_option maxRecDepth 20000 in
set_option maxHeartbeats 2000000 in
theorem ends_lin (w : World) (n : NodeV) (inV : Value) (F : FuncId) (P0 : Value) (cnt : Nat) (T : Nat → List Sp) (a b : Sp) (hT : TermsOk w F P0 cnt T) (hn : LinOk w n cnt) (ha : bd20 a.1 ∧ bd20 a.2) : Calls Tryz.prog 51 #[placeV n inV (.func (.func F) #[P0] #[]) cnt, spanV a, spanV b] w (EndsPost w n (linEnds n cnt T a)) := by
  have hk := hn.kind
  have hfew := hn.few
  obtain ⟨ha1, ha2⟩ := ha
  refine calls_of tab tabOk Tryz.func51 rfl rfl rfl [] (fun _ => ⟨none, 0⟩) [.agg [.c (.int .i64 n.kind), .c (.int .i64 n.a), .c (.int .i64 n.b), .c n.shape.val, .c (.int .i64 n.lo), .c (.int .i64 n.hi), .c (.int .i64 n.size), .c n.data.val, .c n.bias.val, .c inV, .fn (.func F) [.c P0] [], .c (.int .i64 (cnt : Int))], .agg [.c (.int .i64 a.1), .c (.int .i64 a.2)], .agg [.c (.int .i64 b.1), .c (.int .i64 b.2)]] [] (baseA w) 0 rfl rfl (by show 3 ≤ _; decide) (abs_base w) ?_
  (repeat' ((conv => whnf) <;> first | (show drawK _ 9 _ _ _ _ _ _; refine draw_tree tabOk mixed [] _ dtIB0 (by kernel_rfl) (by kernel_rfl) (by kernel_rfl) (List.Sublist.refl _) ?_) | (show drawK _ 11 _ _ _ _ _ _; refine draw_tree tabOk mixed [] _ dtIB1 (by kernel_rfl) (by kernel_rfl) (by kernel_rfl) (List.Sublist.refl _) ?_) | (show drawK _ _ _ _ _ _ _ _; refine draw_quiet tabOk mixed (by kernel_rfl) ?_) | (show Wp _ _ _ _ _ _ _; refine Wp.go tabOk rfl ?_) | (show @cmpK _ _ _; (first | refine cmpY ?_ | refine cmpN ?_ | (refine cmp_both ?_ ?_ <;> intro _))) | (show wrapK _ _ _; refine wrapA ?_) | (show leK _ _ _; refine leA ?_) | (show roomK _ _ _; refine roomA ?_) | (show ltK _ _ _; refine ltA ?_) | (show _ ∧ _; refine ⟨?_, ?_⟩) | (show keepK _ _ _ _ _; refine keepA ?_) | refine own_keep ?_ | refine ap_old ?_))
  refine Wp.loop (σ := Nat × Nat) 4 (fun ⟨o, m⟩ => [(3, .lp 0 0 0 0), (4, .lp 1 0 0 0), (11, .os 3 m), (124, .c (.int .i64 cnt)), (125, .c (.int .i64 o))]) (fun ⟨o, m⟩ => [(3, .rows (ints (linPre n cnt o T a)) 1 3), (1, .box [.c (.int .i64 a.1), .c (.int .i64 a.2)] 58), (0, .box [.c (.int .i64 n.kind), .c (.int .i64 n.a), .c (.int .i64 n.b), .c n.shape.val, .c (.int .i64 n.lo), .c (.int .i64 n.hi), .c (.int .i64 n.size), .c n.data.val, .c n.bias.val, .c inV, .fn (.func F) [.c P0] [], .c (.int .i64 (cnt : Int))] 104)]) (fun _ => baseA w)
    (fun ⟨o, m⟩ => o ≤ cnt ∧ m = 2 * o) (fun s => cnt - s.1) (0, 0) [(3, none)] (by decide) (fun s => ⟨rfl, rfl⟩) ⟨Nat.zero_le _, rfl⟩ ⟨rfl, ⟨rfl, rfl, rfl, rfl, rfl, trivial⟩, ⟨rfl, (by repeat (first | exact List.mem_cons_self | apply List.mem_cons_of_mem)), (by repeat (first | exact List.mem_cons_self | apply List.mem_cons_of_mem)), trivial⟩, fun _ _ h => h⟩ ?_
  rintro ⟨o, m⟩ ⟨ho, hm⟩
  have hml := linPre_len n cnt T a o
  by_cases hlt : o < cnt
  · have hsn := linPre_snoc n cnt o T a
    have hbd := biasI_bd hn o
    have htb := hT.bd o hlt
    have htf := hT.few o hlt
    have hC : ∀ {R : Nat → Prop} {w' : World}, (baseA w).holds R w' → Calls Tryz.prog F #[P0, .int .i64 o] w' (TermsPost w' (T o)) := fun h => hT.calls _ _ h o hlt
    (repeat' ((conv => whnf) <;> first | (show callQ _ 108 _ _ _ _ _; refine callQ_of (f := 108) Tryz.call108 (.int .i64 (biasI n cnt o)) (fun ρ w' hw => bias_any w' n (holds_of_abs hw fun R h => hn.bias.later h) hk inV (.func (.func F) #[P0] #[]) cnt o hfew hlt hn.three (fun h4 => ⟨(hn.four h4).1, (hn.four h4).2.1, (hn.four h4).2.2 o hlt⟩)) ?_) | ((show callK _ F _ _ _ _ _); refine call_terms (T o) hT.enter (fun ρ w' hw => holds_of_abs hw fun R h => hC h) ?_) | (show drawK _ 9 _ _ _ _ _ _; refine draw_tree tabOk mixed [] _ dtIB0 (by kernel_rfl) (by kernel_rfl) (by kernel_rfl) (List.Sublist.refl _) ?_) | (show drawK _ 11 _ _ _ _ _ _; refine draw_tree tabOk mixed [] _ dtIB1 (by kernel_rfl) (by kernel_rfl) (by kernel_rfl) (List.Sublist.refl _) ?_) | (show drawK _ _ _ _ _ _ _ _; refine draw_quiet tabOk mixed (by kernel_rfl) ?_) | (show Wp _ _ _ _ _ _ _; refine Wp.go tabOk rfl ?_) | (show @cmpK _ _ _; (first | refine cmpY ?_ | refine cmpN ?_ | (refine cmp_both ?_ ?_ <;> intro _))) | (show wrapK _ _ _; refine wrapA ?_) | (show leK _ _ _; refine leA ?_) | (show roomK _ _ _; refine roomA ?_) | (show ltK _ _ _; refine ltA ?_) | (show _ ∧ _; refine ⟨?_, ?_⟩) | (show keepK _ _ _ _ _; refine keepA ?_) | refine own_keep ?_ | refine ap_old ?_))
    refine Wp.loop (σ := Nat × Int × Int) 5 (fun ⟨j, lo, hi⟩ => [(3, .lp 0 0 0 0), (4, .lp 1 0 0 0), (11, .os 3 m), (124, .c (.int .i64 cnt)), (125, .c (.int .i64 o)), (13, .c (.int .i64 lo)), (14, .c (.int .i64 hi)), (137, .os 4 (T o).length), (138, .c (.int .i64 (T o).length)), (139, .c (.int .i64 j))]) (fun _ => [(4, .rows (spRows (T o)) 2 152), (3, .rows (ints (linPre n cnt o T a)) 1 3), (1, .box [.c (.int .i64 a.1), .c (.int .i64 a.2)] 58), (0, .box [.c (.int .i64 n.kind), .c (.int .i64 n.a), .c (.int .i64 n.b), .c n.shape.val, .c (.int .i64 n.lo), .c (.int .i64 n.hi), .c (.int .i64 n.size), .c n.data.val, .c n.bias.val, .c inV, .fn (.func F) [.c P0] [], .c (.int .i64 (cnt : Int))] 104)]) (fun _ => baseA w)
      (fun ⟨j, lo, hi⟩ => j ≤ (T o).length ∧ lo = ((T o).take j).foldl (fLo a) (biasI n cnt o) ∧ hi = ((T o).take j).foldl (fHi a) (biasI n cnt o)) (fun s => (T o).length - s.1) (0, biasI n cnt o, biasI n cnt o) [] (by decide) (fun s => ⟨rfl, rfl⟩) ⟨Nat.zero_le _, rfl, rfl⟩ ⟨rfl, ⟨rfl, rfl, rfl, rfl, rfl, rfl, rfl, rfl, rfl, rfl, trivial⟩, ⟨(by repeat (first | exact List.mem_cons_self | apply List.mem_cons_of_mem)), (by repeat (first | exact List.mem_cons_self | apply List.mem_cons_of_mem)), (by repeat (first | exact List.mem_cons_self | apply List.mem_cons_of_mem)), (by repeat (first | exact List.mem_cons_self | apply List.mem_cons_of_mem)), trivial⟩, fun _ _ h => h⟩ ?_
    rintro ⟨j, lo, hi⟩ ⟨hj, hlo, hhi⟩
    by_cases hjl : j < (T o).length
    · have s1 := fold_snoc (f := fLo a) (s := biasI n cnt o) hjl
      have s2 := fold_snoc (f := fHi a) (s := biasI n cnt o) hjl
      have hrow := spRows_get hjl
      have hwb := htb _ (List.getElem_mem hjl)
      have g := lin_bd ⟨ha1, ha2⟩ (l := (T o).take j) (s := biasI n cnt o) (fun x hx => htb x (List.mem_of_mem_take hx))
      rw [← hlo, ← hhi, List.length_take, Nat.min_eq_left hj] at g
      rw [← hlo] at s1
      rw [← hhi] at s2
      generalize (T o)[j] = s at *
      have q1 := mul_bd (A := 1048576) (B := 1048576) hwb ha1
      have q2 := mul_bd (A := 1048576) (B := 1048576) hwb ha2
      unfold bd20 at hbd
      (repeat' ((conv => whnf) <;> first | (show idxRowK _ _ _ _ _ _; (refine idxRow_of j rfl hjl (by rw [spRows_length]; exact Nat.le_refl _) ?_)) | (show rowAggK _ _ _ _ _; refine rowAgg_of _ _ hrow rfl rfl ?_) | (show drawK _ 9 _ _ _ _ _ _; refine draw_tree tabOk mixed [] _ dtIB0 (by kernel_rfl) (by kernel_rfl) (by kernel_rfl) (List.Sublist.refl _) ?_) | (show drawK _ 11 _ _ _ _ _ _; refine draw_tree tabOk mixed [] _ dtIB1 (by kernel_rfl) (by kernel_rfl) (by kernel_rfl) (List.Sublist.refl _) ?_) | (show drawK _ _ _ _ _ _ _ _; refine draw_quiet tabOk mixed (by kernel_rfl) ?_) | (show Wp _ _ _ _ _ _ _; refine Wp.go tabOk rfl ?_) | (show @cmpK _ _ _; (first | refine cmpY ?_ | refine cmpN ?_ | (refine cmp_both ?_ ?_ <;> intro _))) | (show wrapK _ _ _; refine wrapA ?_) | (show leK _ _ _; refine leA ?_) | (show roomK _ _ _; refine roomA ?_) | (show ltK _ _ _; refine ltA ?_) | (show _ ∧ _; refine ⟨?_, ?_⟩) | (show keepK _ _ _ _ _; refine keepA ?_) | refine own_keep ?_ | refine ap_old ?_))
      all_goals (conv => whnf)
      all_goals exact ⟨(j + 1, _, _), [], ⟨hjl, by rw [s1]; unfold fLo; omega, by rw [s2]; unfold fHi; omega⟩, by simp only; omega, rfl, ⟨rfl, rfl, rfl, rfl, rfl, rfl, rfl, rfl, rfl, rfl, trivial⟩, ⟨(by repeat (first | exact List.mem_cons_self | apply List.mem_cons_of_mem)), (by repeat (first | exact List.mem_cons_self | apply List.mem_cons_of_mem)), (by repeat (first | exact List.mem_cons_self | apply List.mem_cons_of_mem)), (by repeat (first | exact List.mem_cons_self | apply List.mem_cons_of_mem)), trivial⟩, fun _ _ h => h⟩
    · obtain rfl : j = (T o).length := by omega
      rw [List.take_of_length_le (Nat.le_refl _)] at hlo hhi
      (repeat' ((conv => whnf) <;> first | (show leK _ _ _; (refine le_of (by rw [ints_length, hml, hm]; exact Nat.le_refl _) ?_)) | (show roomK _ _ _; (refine room_of (by show (m + 2) * 8 ≤ 140737488355328; omega) ?_)) | (show drawK _ 9 _ _ _ _ _ _; refine draw_tree tabOk mixed [] _ dtIB0 (by kernel_rfl) (by kernel_rfl) (by kernel_rfl) (List.Sublist.refl _) ?_) | (show drawK _ 11 _ _ _ _ _ _; refine draw_tree tabOk mixed [] _ dtIB1 (by kernel_rfl) (by kernel_rfl) (by kernel_rfl) (List.Sublist.refl _) ?_) | (show drawK _ _ _ _ _ _ _ _; refine draw_quiet tabOk mixed (by kernel_rfl) ?_) | (show Wp _ _ _ _ _ _ _; refine Wp.go tabOk rfl ?_) | (show @cmpK _ _ _; (first | refine cmpY ?_ | refine cmpN ?_ | (refine cmp_both ?_ ?_ <;> intro _))) | (show wrapK _ _ _; refine wrapA ?_) | (show leK _ _ _; refine leA ?_) | (show roomK _ _ _; refine roomA ?_) | (show ltK _ _ _; refine ltA ?_) | (show _ ∧ _; refine ⟨?_, ?_⟩) | (show keepK _ _ _ _ _; refine keepA ?_) | refine own_keep ?_ | refine ap_old ?_))
      conv => whnf
      exact ⟨(o + 1, m + 2), [(3, some 6)], ⟨hlt, by omega⟩, by simp only; omega, rfl, ⟨rfl, rfl, rfl, rfl, rfl, trivial⟩, ⟨by
        show (6, Ent.rows (ints (linPre n cnt (o + 1) T a)) 1 3) ∈ _
        rw [hsn, ← hlo, ← hhi]; exact ints_two _ _ _ (by rw [hml, hm]), (by repeat (first | exact List.mem_cons_self | apply List.mem_cons_of_mem)), (by repeat (first | exact List.mem_cons_self | apply List.mem_cons_of_mem)), trivial⟩, fun _ _ h => h⟩
  · obtain rfl : o = cnt := by omega
    (repeat' ((conv => whnf) <;> first | (show drawK _ 9 _ _ _ _ _ _; refine draw_tree tabOk mixed [] _ dtIB0 (by kernel_rfl) (by kernel_rfl) (by kernel_rfl) (List.Sublist.refl _) ?_) | (show drawK _ 11 _ _ _ _ _ _; refine draw_tree tabOk mixed [] _ dtIB1 (by kernel_rfl) (by kernel_rfl) (by kernel_rfl) (List.Sublist.refl _) ?_) | (show drawK _ _ _ _ _ _ _ _; refine draw_quiet tabOk mixed (by kernel_rfl) ?_) | (show Wp _ _ _ _ _ _ _; refine Wp.go tabOk rfl ?_) | (show @cmpK _ _ _; (first | refine cmpY ?_ | refine cmpN ?_ | (refine cmp_both ?_ ?_ <;> intro _))) | (show wrapK _ _ _; refine wrapA ?_) | (show leK _ _ _; refine leA ?_) | (show roomK _ _ _; refine roomA ?_) | (show ltK _ _ _; refine ltA ?_) | (show _ ∧ _; refine ⟨?_, ?_⟩) | (show keepK _ _ _ _ _; refine keepA ?_) | refine own_keep ?_ | refine ap_old ?_))
    conv => whnf
    refine eends_new (fun _ _ h => h) rfl (by repeat (first | exact List.mem_cons_self | apply List.mem_cons_of_mem)) (by rw [hm]; exact hml.symm) (fun x hx => ?_) (by rw [show linEnds n o T a = linPre n o o T a from rfl, hml]; omega)
    obtain ⟨q, hq, hx⟩ := List.mem_flatMap.1 hx
    rw [List.mem_range] at hq
    have g := lin_bd ⟨ha1, ha2⟩ (l := T q) (s := biasI n o q) (hT.bd q hq)
    have gf := hT.few q hq
    have gb := biasI_bd hn q
    unfold bd20 at gb
    simp only [List.mem_cons, List.not_mem_nil, or_false] at hx
    unfold i64
    rcases hx with rfl | rfl <;> omega
end Go.Proofs.YtgndjjdeopfdkaaGreat

/- IT -/
namespace Go.Proofs.YtgndjjdeopfdkaaGreat
open Go.SX Go.RowKit
def fNum (av : List Int) (s : Int) (t : Sp) : Int := s + t.1 * av.getD t.2.toNat 0
def numsLin (n : NodeV) (cnt k : Nat) (T : Nat → List Sp) (av : List Int) : List Int := (List.range k).map fun o => (T o).foldl (fNum av) (biasI n cnt o)
end Go.Proofs.YtgndjjdeopfdkaaGreat

/- IU -/
namespace Go.Proofs.YtgndjjdeopfdkaaGreat
open Go.SX Go.RowKit
theorem entries3_valI {a b c : Int} (h : 0 < entries [a, b, c]) : entries [a, b, c] = a * b * c := by
  unfold entries at h ⊢
  rw [if_neg (by simp)] at h ⊢
  simp only [entLoop] at h ⊢
  split at h
  · simp at h
  · rename_i h1
    split at h
    · simp at h
    · rename_i h2
      split at h
      · simp at h
      · rename_i h3
        rw [if_neg h1, if_neg h2, if_neg h3]
        grind
theorem kernel4I {a b c e : Int} (h : 0 < kernelI [a, b, c, e]) : kernelI [a, b, c, e] = a * b * c * e := by
  unfold kernelI at h ⊢
  rw [if_pos (by simp)] at h ⊢
  simp only [kerLoop] at h ⊢
  split at h
  · simp at h
  · rename_i h1
    split at h
    · simp at h
    · rename_i h2
      split at h
      · simp at h
      · rename_i h3
        split at h
        · simp at h
        · rename_i h4
          rw [if_neg h1, if_neg h2, if_neg h3, if_neg h4]
          grind
theorem div2_lt {o k h w : Int} (ho : o < k * h * w) (hw : 0 < w) (hh : 0 < h) : o / w / h < k :=
  Int.ediv_lt_of_lt_mul hh (Int.ediv_lt_of_lt_mul hw ho)
theorem conv_at {d : List Int} {k1 k2 k3 i1 i2 o : Int} {i : Nat} (h1 : 1 ≤ k1) (h2 : 1 ≤ k2 ∧ k2 ≤ i1) (h3 : 1 ≤ k3 ∧ k3 ≤ i2) (ho : 0 ≤ o) (hi : (i : Int) < k1 * k2 * k3) : 0 ≤ (convTerm d k1 k2 k3 i1 i2 o i).2 ∧ (convTerm d k1 k2 k3 i1 i2 o i).2 < k1 * i1 * i2 := by
  have hW : 0 < i2 - k3 + 1 := by omega
  have hH : 0 < i1 - k2 + 1 := by omega
  obtain ⟨d1, d2, d3, d4⟩ := div_bd ho hW
  obtain ⟨d5, d6, d7, d8⟩ := div_bd d1 hH
  obtain ⟨c1, c2, c3, c4⟩ := div_bd (x := (i : Int)) (y := k3) (by omega) (by omega)
  obtain ⟨c5, c6, c7, c8⟩ := div_bd (x := (i : Int) / k3) (y := k2) c1 (by omega)
  have hc := div2_lt (o := (i : Int)) (k := k1) (h := k2) (w := k3) hi (by omega) (by omega)
  show 0 ≤ ((i : Int) / k3 / k2 * i1 + o / (i2 - k3 + 1) % (i1 - k2 + 1) + (i : Int) / k3 % k2) * i2 + o % (i2 - k3 + 1) + (i : Int) % k3 ∧ ((i : Int) / k3 / k2 * i1 + o / (i2 - k3 + 1) % (i1 - k2 + 1) + (i : Int) / k3 % k2) * i2 + o % (i2 - k3 + 1) + (i : Int) % k3 < k1 * i1 * i2
  generalize (i : Int) / k3 / k2 = C at *
  generalize o / (i2 - k3 + 1) % (i1 - k2 + 1) = Y at *
  generalize (i : Int) / k3 % k2 = DY at *
  generalize o % (i2 - k3 + 1) = X at *
  generalize (i : Int) % k3 = DX at *
  have e1 : C * i1 ≤ (k1 - 1) * i1 := Int.mul_le_mul_of_nonneg_right (by omega) (by omega)
  rw [Int.sub_mul, Int.one_mul] at e1
  have e0 : 0 ≤ C * i1 := Int.mul_nonneg c5 (by omega)
  have e2 : (C * i1 + Y + DY) * i2 ≤ (k1 * i1 - 1) * i2 := Int.mul_le_mul_of_nonneg_right (by omega) (by omega)
  rw [Int.sub_mul, Int.one_mul] at e2
  have e3 : 0 ≤ (C * i1 + Y + DY) * i2 := Int.mul_nonneg (by omega) (by omega)
  omega
theorem pool_at {z i0 i1 i2 o : Int} {i : Nat} (hz : 1 ≤ z) (h1 : z ≤ i1) (h2 : z ≤ i2) (m1 : i1 % z = 0) (m2 : i2 % z = 0) (ho : 0 ≤ o ∧ o < i0 * (i1 / z) * (i2 / z)) (hi : (i : Int) < z * z) : 0 ≤ (poolTerm z i1 i2 o i).2 ∧ (poolTerm z i1 i2 o i).2 < i0 * i1 * i2 := by
  have hW := div_pos1 (x := i2) (y := z) (by omega) h2
  have hH := div_pos1 (x := i1) (y := z) (by omega) h1
  have q1 := Int.mul_ediv_add_emod i1 z
  have q2 := Int.mul_ediv_add_emod i2 z
  obtain ⟨d1, d2, d3, d4⟩ := div_bd (x := o) (y := i2 / z) ho.1 (by omega)
  obtain ⟨d5, d6, d7, d8⟩ := div_bd (x := o / (i2 / z)) (y := i1 / z) d1 (by omega)
  obtain ⟨c1, c2, c3, c4⟩ := div_bd (x := (i : Int)) (y := z) (by omega) (by omega)
  have hdy : (i : Int) / z < z := Int.ediv_lt_of_lt_mul (by omega) hi
  have hc := div2_lt (o := o) (k := i0) (h := i1 / z) (w := i2 / z) ho.2 (by omega) (by omega)
  show 0 ≤ (o / (i2 / z) / (i1 / z) * i1 + o / (i2 / z) % (i1 / z) * z + (i : Int) / z) * i2 + o % (i2 / z) * z + (i : Int) % z ∧ (o / (i2 / z) / (i1 / z) * i1 + o / (i2 / z) % (i1 / z) * z + (i : Int) / z) * i2 + o % (i2 / z) * z + (i : Int) % z < i0 * i1 * i2
  generalize o / (i2 / z) / (i1 / z) = C at *
  generalize o / (i2 / z) % (i1 / z) = Y at *
  generalize o % (i2 / z) = X at *
  generalize (i : Int) / z = DY at *
  generalize (i : Int) % z = DX at *
  have y1 : Y * z ≤ (i1 / z - 1) * z := Int.mul_le_mul_of_nonneg_right (by omega) (by omega)
  have x1 : X * z ≤ (i2 / z - 1) * z := Int.mul_le_mul_of_nonneg_right (by omega) (by omega)
  have y2 : (i1 / z - 1) * z = z * (i1 / z) - z := by rw [Int.sub_mul, Int.one_mul, Int.mul_comm]
  have x2 : (i2 / z - 1) * z = z * (i2 / z) - z := by rw [Int.sub_mul, Int.one_mul, Int.mul_comm]
  have y0 : 0 ≤ Y * z := Int.mul_nonneg d7 (by omega)
  have x0 : 0 ≤ X * z := Int.mul_nonneg d3 (by omega)
  have y1' : Y * z ≤ i1 - z := by omega
  have x1' : X * z ≤ i2 - z := by omega
  have e1 : C * i1 ≤ (i0 - 1) * i1 := Int.mul_le_mul_of_nonneg_right (by omega) (by omega)
  rw [Int.sub_mul, Int.one_mul] at e1
  have e0 : 0 ≤ C * i1 := Int.mul_nonneg d5 (by omega)
  have e2 : (C * i1 + Y * z + DY) * i2 ≤ (i0 * i1 - 1) * i2 := Int.mul_le_mul_of_nonneg_right (by omega) (by omega)
  rw [Int.sub_mul, Int.one_mul] at e2
  have e3 : 0 ≤ (C * i1 + Y * z + DY) * i2 := Int.mul_nonneg (by omega) (by omega)
  omega
end Go.Proofs.YtgndjjdeopfdkaaGreat

/- IV -/
namespace Go.Proofs.YtgndjjdeopfdkaaGreat
open Go.SX Go.RowKit
def termsG (n : NodeV) (tl : List Int) (o : Nat) : List Sp :=
  if n.kind = 3 then denseT n o (entries tl).toNat
  else if n.kind = 4 then convT n.data.xs (n.shape.xs.getD 1 0) (n.shape.xs.getD 2 0) (n.shape.xs.getD 3 0) (tl.getD 1 0) (tl.getD 2 0) o
  else poolT n.size (tl.getD 1 0) (tl.getD 2 0) o
theorem form4 {n : NodeV} {at_ : Nat} (h : formB n at_ = true) (hk : n.kind = 4) : (n.data.xs.length : Int) = kernelI n.shape.xs ∧ (n.bias.xs.length : Int) = n.shape.xs.getD 0 0 := by
  unfold formB at h
  repeat (first | rw [if_pos (by omega)] at h | rw [if_neg (by omega)] at h)
  simp only [Bool.and_eq_true, decide_eq_true_eq] at h
  exact ⟨h.1.2, h.2⟩
theorem list4 {l : List Int} (h : l.length = 4) : l = [l.getD 0 0, l.getD 1 0, l.getD 2 0, l.getD 3 0] := by
  match l, h with
  | [a, b, c, d], _ => rfl
/-- what a node over weights, at its place, is known to be -/
structure LinIn (n : NodeV) (t : IntsV) (cnt : Nat) (F : FuncId) (P0 : Value) : Prop where
  fn : termsF n t.val cnt = .func (.func F) #[P0] #[]
  terms : ∀ w, t.ok w → n.ok w → TermsOk w F P0 cnt (termsG n t.xs)
  lin : ∀ w, n.ok w → LinOk w n cnt
  at_ : ∀ o, o < cnt → ∀ s ∈ termsG n t.xs o, 0 ≤ s.2 ∧ s.2 < entries t.xs
set_option maxHeartbeats 1000000 in
theorem lin_in {n : NodeV} {sh : List (List Int)} {s : List Int} {t : IntsV} {cnt : Nat} (hn : NodeIn n sh s) (hk : n.kind = 3 ∨ n.kind = 4 ∨ n.kind = 5) (ht : sh.getD n.a.toNat [] = t.xs) (hg : 0 < entries t.xs) (hgs : ∀ q ∈ sh, 0 < entries q) (hc : entries s = cnt) : ∃ F P0, LinIn n t cnt F P0 := by
  have hsh := hn.shape
  have hfo := formed_of hn.form
  have h4 := form4 hn.form
  obtain ⟨nd, nb, _, _, _⟩ := near_in hn.near
  have heb := (entries_bd t.xs).2
  have hcb : cnt ≤ 64 := by have := (entries_bd s).2; omega
  have hsp := (entries_bd s).1
  rcases hk with hk | hk | hk
  · unfold shapeO at hsh
    rw [if_neg (by omega), if_pos hk, ht] at hsh
    by_cases hdl : (n.data.xs.length : Int) = n.bias.xs.length * entries t.xs
    · rw [if_pos hdl, Option.some.injEq] at hsh
      obtain ⟨b1, b2⟩ := hfo.bias hk
      have he1 : entries [(n.bias.xs.length : Int)] = n.bias.xs.length := by
        unfold entries
        rw [if_neg (by simp)]
        simp only [entLoop]
        rw [if_neg (by omega)]
        omega
      rw [← hsh, he1] at hc
      have hbl : n.bias.xs.length = cnt := by omega
      obtain ⟨size, hsz⟩ : ∃ size : Nat, entries t.xs = size := ⟨(entries t.xs).toNat, by omega⟩
      have hdl' : n.data.xs.length = n.bias.xs.length * size := by
        rw [hsz, ← Int.natCast_mul] at hdl
        exact Int.ofNat.inj hdl
      have hG : ∀ o, termsG n t.xs o = denseT n o size := fun o => by unfold termsG; rw [if_pos hk, hsz]; rfl
      refine ⟨_, _, if_pos hk, fun w hto hno => ⟨Tryz.call104, fun R w' hb o ho => ?_, fun o ho => ?_, fun o ho x hx => ?_⟩, fun w hno => ⟨.inl hk, hno.bias, nb, hcb, fun _ => hbl, fun h => by omega⟩, fun o ho x hx => ?_⟩
      · rw [hG]
        exact dense_any w' n (hno.data.later hb) ⟨b1, b2⟩ (.slice none 0 0) .nilFunc cnt o size (by omega) hdl' (by omega)
      · rw [hG]; simp [denseT]; omega
      · rw [hG] at hx
        obtain ⟨i, _, rfl⟩ := List.mem_map.1 hx
        exact getD_bd nd _
      · rw [hG] at hx
        obtain ⟨i, hi, rfl⟩ := List.mem_map.1 hx
        rw [List.mem_range] at hi
        simp only
        omega
    · rw [if_neg hdl] at hsh; cases hsh
  · obtain ⟨g1, g2⟩ := h4 hk
    have hker := hfo.kern hk
    obtain ⟨hl4, hdim⟩ := kernel_dims hker
    have hsx := list4 hl4
    unfold shapeO at hsh
    rw [if_neg (by omega), if_neg (by omega), if_pos hk, ht] at hsh
    have hG : ∀ o, termsG n t.xs o = convT n.data.xs (n.shape.xs.getD 1 0) (n.shape.xs.getD 2 0) (n.shape.xs.getD 3 0) (t.xs.getD 1 0) (t.xs.getD 2 0) o := fun o => by unfold termsG; rw [if_neg (by omega), if_pos hk]
    have dm : ∀ k, k < 4 → 1 ≤ n.shape.xs.getD k 0 ∧ n.shape.xs.getD k 0 ≤ 64 := fun k hk => hdim _ (getD_mem (by omega))
    have dm0 := dm 0 (by decide)
    have dm1 := dm 1 (by decide)
    have dm2 := dm 2 (by decide)
    have dm3 := dm 3 (by decide)
    rw [hsx] at g1 hker
    have hke := kernel4I hker
    rw [hke] at g1
    generalize n.shape.xs.getD 0 0 = k0 at *
    generalize n.shape.xs.getD 1 0 = k1 at *
    generalize n.shape.xs.getD 2 0 = k2 at *
    generalize n.shape.xs.getD 3 0 = k3 at *
    by_cases hbad : t.xs.length ≠ 3 ∨ t.xs.getD 0 0 ≠ k1 ∨ t.xs.getD 1 0 < k2 ∨ t.xs.getD 2 0 < k3
    · rw [if_pos hbad] at hsh; cases hsh
    rw [if_neg hbad] at hsh
    have hl3 : t.xs.length = 3 := by omega
    have htx := len3 hl3
    have tdm := (entries_dims hg).2.2
    have td1 := tdm _ (getD_mem (xs := t.xs) (k := 1) (by omega))
    have td2 := tdm _ (getD_mem (xs := t.xs) (k := 2) (by omega))
    have te : entries t.xs = k1 * t.xs.getD 1 0 * t.xs.getD 2 0 := by
      have h0 : t.xs.getD 0 0 = k1 := by omega
      have := entries3_valI (a := t.xs.getD 0 0) (b := t.xs.getD 1 0) (c := t.xs.getD 2 0) (by rw [← htx]; exact hg)
      rw [← htx, h0] at this
      exact this
    generalize hi0 : t.xs.getD 0 0 = i0 at *
    generalize t.xs.getD 1 0 = i1 at *
    generalize t.xs.getD 2 0 = i2 at *
    by_cases hpos : 0 < entries [k0, i1 - k2 + 1, i2 - k3 + 1]
    · rw [if_pos hpos, Option.some.injEq] at hsh
      have hcv := entries3_valI hpos
      rw [hsh, hc] at hcv
      have hQ : k1 * k2 * k3 ≤ k1 * i1 * i2 := by
        have q1 : k1 * k2 ≤ k1 * i1 := Int.mul_le_mul_of_nonneg_left (by omega) (by omega)
        have q0 : 0 < k1 * k2 := Int.mul_pos (by omega) (by omega)
        exact Int.mul_le_mul q1 (by omega) (by omega) (by omega)
      have hQ0 : 0 < k1 * k2 * k3 := Int.mul_pos (Int.mul_pos (by omega) (by omega)) (by omega)
      have hob : ∀ o : Nat, o < cnt → (o : Int) < k0 * (i1 - k2 + 1) * (i2 - k3 + 1) := fun o ho => by rw [← hcv]; omega
      refine ⟨_, _, by unfold termsF; rw [if_neg (by omega), if_pos hk], fun w hto hno => ⟨Tryz.call105, fun R w' hb o ho => ?_, fun o ho => ?_, fun o ho x hx => ?_⟩, fun w hno => ⟨.inr (.inl hk), hno.bias, nb, hcb, fun h => by omega, fun _ => ?_⟩, fun o ho x hx => ?_⟩
      · rw [hG]
        exact conv_any w' n t (hno.data.later hb) (hno.shape.later hb) (hto.later hb) .nilFunc cnt k0 k1 k2 k3 i1 i2 o ⟨hsx, ⟨i0, htx⟩, dm1, by omega, by omega, by omega, by omega, g1, by omega, by omega, div2_lt (hob o ho) (by omega) (by omega)⟩
      · rw [hG]; simp only [convT, List.length_map, List.length_range]; omega
      · rw [hG] at hx
        obtain ⟨i, _, rfl⟩ := List.mem_map.1 hx
        exact getD_bd nd _
      · have hw1 : 0 < (i1 - k2 + 1) * (i2 - k3 + 1) := Int.mul_pos (by omega) (by omega)
        obtain ⟨A, hA⟩ : ∃ A : Nat, (i1 - k2 + 1) * (i2 - k3 + 1) = A := ⟨((i1 - k2 + 1) * (i2 - k3 + 1)).toNat, by omega⟩
        obtain ⟨B, hB⟩ : ∃ B : Nat, k0 = B := ⟨k0.toNat, by omega⟩
        have hcA : cnt = B * A := by
          have : (cnt : Int) = B * A := by rw [hcv, Int.mul_assoc, hA, hB]
          exact_mod_cast this
        have hbB : n.bias.xs.length = B := by omega
        have hA1 : 1 ≤ A := by omega
        have hB1 : 1 ≤ B := by omega
        rw [hbB, hcA]
        refine ⟨hB1, Nat.le_mul_of_pos_right B hA1, fun o ho => ?_⟩
        rw [Nat.mul_div_cancel_left A hB1]
        exact (Nat.div_lt_iff_lt_mul hA1).2 ho
      · rw [hG] at hx
        obtain ⟨i, hi, rfl⟩ := List.mem_map.1 hx
        rw [List.mem_range] at hi
        rw [te]
        exact conv_at (by omega) (by omega) (by omega) (by omega) (by omega)
    · rw [if_neg hpos] at hsh; cases hsh
  · have hz := hfo.pool hk
    unfold shapeO at hsh
    rw [if_neg (by omega), if_neg (by omega), if_neg (by omega), if_pos hk, ht] at hsh
    have hG : ∀ o, termsG n t.xs o = poolT n.size (t.xs.getD 1 0) (t.xs.getD 2 0) o := fun o => by unfold termsG; rw [if_neg (by omega), if_neg (by omega)]
    by_cases hbad : t.xs.length ≠ 3 ∨ t.xs.getD 1 0 % n.size ≠ 0 ∨ t.xs.getD 2 0 % n.size ≠ 0
    · rw [if_pos hbad] at hsh; cases hsh
    rw [if_neg hbad, Option.some.injEq] at hsh
    have hl3 : t.xs.length = 3 := by omega
    have htx := len3 hl3
    have tdm := (entries_dims hg).2.2
    have td0 := tdm _ (getD_mem (xs := t.xs) (k := 0) (by omega))
    have td1 := tdm _ (getD_mem (xs := t.xs) (k := 1) (by omega))
    have td2 := tdm _ (getD_mem (xs := t.xs) (k := 2) (by omega))
    have te : entries t.xs = t.xs.getD 0 0 * t.xs.getD 1 0 * t.xs.getD 2 0 := by
      have := entries3_valI (a := t.xs.getD 0 0) (b := t.xs.getD 1 0) (c := t.xs.getD 2 0) (by rw [← htx]; exact hg)
      rw [← htx] at this
      exact this
    generalize t.xs.getD 0 0 = i0 at *
    generalize t.xs.getD 1 0 = i1 at *
    generalize t.xs.getD 2 0 = i2 at *
    have m1 : i1 % n.size = 0 := by omega
    have m2 : i2 % n.size = 0 := by omega
    have z1 : n.size ≤ i1 := by
      rcases (by omega : i1 < n.size ∨ n.size ≤ i1) with hlt | hge
      · rw [Int.emod_eq_of_lt (by omega) hlt] at m1; omega
      · exact hge
    have z2 : n.size ≤ i2 := by
      rcases (by omega : i2 < n.size ∨ n.size ≤ i2) with hlt | hge
      · rw [Int.emod_eq_of_lt (by omega) hlt] at m2; omega
      · exact hge
    have hpos : 0 < entries [i0, i1 / n.size, i2 / n.size] := by
      have := shape_good hfo hgs hn.shape rfl
      rw [hsh]; exact this
    have hcv := entries3_valI hpos
    rw [hsh, hc] at hcv
    have hQ : n.size * n.size ≤ i1 * i2 := Int.mul_le_mul z1 z2 (by omega) (by omega)
    have hQ2 : i1 * i2 ≤ i0 * i1 * i2 := by
      have : 1 * (i1 * i2) ≤ i0 * (i1 * i2) := Int.mul_le_mul_of_nonneg_right (by omega) (Int.mul_nonneg (by omega) (by omega))
      rw [Int.mul_assoc]; omega
    have hob : ∀ o : Nat, o < cnt → (o : Int) < i0 * (i1 / n.size) * (i2 / n.size) := fun o ho => by rw [← hcv]; omega
    refine ⟨_, _, by unfold termsF; rw [if_neg (by omega), if_neg (by omega)], fun w hto hno => ⟨Tryz.call106, fun R w' hb o ho => ?_, fun o ho => ?_, fun o ho x hx => ?_⟩, fun w hno => ⟨.inr (.inr hk), hno.bias, nb, hcb, fun h => by omega, fun h => by omega⟩, fun o ho x hx => ?_⟩
    · rw [hG]
      exact pool_any w' n t (hto.later hb) .nilFunc cnt i1 i2 o ⟨⟨i0, htx⟩, by omega, z2, by omega, by omega, by omega⟩
    · rw [hG]; simp only [poolT, List.length_map, List.length_range]; omega
    · rw [hG] at hx
      obtain ⟨i, _, rfl⟩ := List.mem_map.1 hx
      exact ⟨(show (-1048576 : Int) ≤ 1 by decide), (show (1 : Int) ≤ 1048576 by decide)⟩
    · rw [hG] at hx
      obtain ⟨i, hi, rfl⟩ := List.mem_map.1 hx
      rw [List.mem_range] at hi
      rw [te]
      have hzz := Int.mul_pos (show 0 < n.size by omega) (show 0 < n.size by omega)
      exact pool_at (by omega) z1 z2 m1 m2 ⟨by omega, hob o ho⟩ (by omega)
end Go.Proofs.YtgndjjdeopfdkaaGreat

