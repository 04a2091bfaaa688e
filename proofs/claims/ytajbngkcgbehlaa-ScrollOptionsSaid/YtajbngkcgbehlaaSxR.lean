import Derived.Test.YtajbngkcgbehlaaSxQ
namespace Go.SX
open Go.RowKit

/-! ### For the prover: how each node is passed -/
def going : Code → Bool
  | .loop _ => false
  | .rangeFunc _ _ _ _ => false
  | .scope _ => false
  | .label _ => false
  | .goto _ => false
  | .refuse _ => false
  | _ => true
theorem Wp.go {cx : Cx} (hok : ∀ p ∈ cx.tab, mkTI cx.P p.1 = some p.2) {c : Code} {env : Env} {H : Heap} {S : Asn} {nx : Nat} {K : Exit → Env → Heap → Asn → Nat → Prop} (_hg : going c = true) (h : vcC cx c env H S nx K) : Wp cx c env H S nx K := vcC_sound hok h

theorem wrap_i64 {z : Int} {K : Int → Prop} (h1 : -9223372036854775808 ≤ z) (h2 : z ≤ 9223372036854775807) (h : K z) : wrapK .i64 z K := by
  rw [wrapK_def]
  rw [IntWalk.i64_in z ⟨h1, h2⟩]; exact h
theorem wrap_any {k : IntKind} {z : Int} {K : Int → Prop} (h : K (k.wrap z)) : wrapK k z K := by rw [wrapK_def]; exact h
theorem wrap_to {k : IntKind} {z y : Int} {K : Int → Prop} (e : k.wrap z = y) (h : K y) : wrapK k z K := by rw [wrapK_def]; rw [e]; exact h
theorem wrap_u8 {z : Int} {K : Int → Prop} (h1 : 0 ≤ z) (h2 : z ≤ 255) (h : K z) : wrapK .u8 z K := by
  refine wrap_to ?_ h
  simp only [IntKind.wrap, IntKind.signed, IntKind.bits, Bool.false_and]
  have : (2 : Int) ^ 8 = 256 := by decide
  simp only [this]
  simp
  omega
theorem wrap_u64 {z : Int} {K : Int → Prop} (h1 : 0 ≤ z) (h2 : z ≤ 18446744073709551615) (h : K z) : wrapK .u64 z K := by
  refine wrap_to ?_ h
  simp only [IntKind.wrap, IntKind.signed, IntKind.bits, Bool.false_and]
  have : (2 : Int) ^ 64 = 18446744073709551616 := by decide
  simp only [this]
  simp
  omega

theorem cmp_yes {p : Prop} [Decidable p] {K : Bool → Prop} (hp : p) (h : K true) : cmpK p K := by
  rw [cmpK_def]; exact ⟨fun _ => h, fun hn => absurd hp hn⟩
theorem cmp_no {p : Prop} [Decidable p] {K : Bool → Prop} (hp : ¬ p) (h : K false) : cmpK p K := by
  rw [cmpK_def]; exact ⟨fun hy => absurd hy hp, fun _ => h⟩
theorem cmp_both {p : Prop} [Decidable p] {K : Bool → Prop} (h1 : p → K true) (h2 : ¬ p → K false) : cmpK p K := by
  rw [cmpK_def]; exact ⟨h1, h2⟩
theorem div_pos {k : IntKind} {x y : Int} {K : Int → Prop} (hk : k = .i64) (h0 : 0 ≤ x) (h1 : x ≤ 9223372036854775807) (hy : 0 < y) (h : K (x / y)) : divK k x y K := by
  subst hk
  rw [divK_def]
  refine ⟨by omega, ?_⟩
  have e : x.tdiv y = x / y := Int.tdiv_eq_ediv_of_nonneg h0
  have e1 : 0 ≤ x / y := Int.ediv_nonneg h0 (by omega)
  have e2 : x / y ≤ x := Int.ediv_le_self y h0
  rw [e, IntWalk.i64_in _ ⟨by omega, by omega⟩]; exact h
theorem div_any {k : IntKind} {x y : Int} {K : Int → Prop} (hy : y ≠ 0) (h : K (k.wrap (x.tdiv y))) : divK k x y K := by rw [divK_def]; exact ⟨hy, h⟩
theorem rem_pos {x y : Int} {K : Int → Prop} (h0 : 0 ≤ x) (hy : y ≠ 0) (h : K (x % y)) : remK x y K := by
  rw [remK_def]
  refine ⟨hy, ?_⟩
  rw [Int.tmod_eq_emod_of_nonneg h0]; exact h
theorem rem_any {x y : Int} {K : Int → Prop} (hy : y ≠ 0) (h : K (x.tmod y)) : remK x y K := by rw [remK_def]; exact ⟨hy, h⟩

theorem fin_of {B : Base} {v : SV} {H : Heap} {S : Asn} {nx : Nat} {R : Ending → World → Prop} (h : ∀ ρ w, Abs B ρ nx H S w → R (.returned (v.rf ρ)) w) : finK B v H S nx R := by rw [finK_def]; exact h

theorem le_of {m n : Nat} {K : Prop} (h : m ≤ n) (hk : K) : leK m n K := by rw [leK_def]; exact ⟨h, hk⟩
theorem lt_of {m n : Nat} {K : Prop} (h : m < n) (hk : K) : ltK m n K := by rw [ltK_def]; exact ⟨h, hk⟩
theorem room_of {m n : Nat} {K : Prop} (h : m * n ≤ 140737488355328) (hk : K) : roomK m n K := by rw [roomK_def]; exact ⟨h, hk⟩
theorem make_of {l c : Int} {bytes : Nat} {K : Nat → Prop} (n : Nat) (hl : l = n) (hc : c = n) (hb : bytes * n ≤ 281474976710656) (h63 : n ≤ 9223372036854775807) (h : K n) : makeK l c bytes K := by
  rw [makeK_def]; exact ⟨n, n, hl, hc, Nat.le_refl _, hb, h63, h⟩
theorem make_cap {l c : Int} {bytes : Nat} {K : Nat → Prop} (n m : Nat) (hl : l = n) (hc : c = m) (hnm : n ≤ m) (hb : bytes * m ≤ 281474976710656) (h63 : m ≤ 9223372036854775807) (h : K n) : makeK l c bytes K := by
  rw [makeK_def]; exact ⟨n, m, hl, hc, hnm, hb, h63, h⟩
theorem idx_of {base : Option Addr} {len size : Nat} {z : Int} {K : SV → Prop} (a : Addr) (j : Nat) (hb : base = some a) (hz : z = j) (hj : j < len) (h : K (.c (.pointer (some (a.add (j * size)))))) : idxK base len size z K := by
  rw [idxK_def]
  subst hz
  exact ⟨a, hb, by omega, by omega, by simpa using h⟩
theorem idxRow_of {i len m size : Nat} {z : Int} {K : SV → Prop} (j : Nat) (hz : z = j) (hj : j < len) (hl : len ≤ m) (h : K (.lp i j size 0)) : idxRowK i len m size z K := by
  rw [idxRowK_def]; exact ⟨j, hz, hj, hl, h⟩
theorem row_of {xs : List (List Value)} {j f : Nat} {K : Value → Prop} (r : List Value) (v : Value) (h1 : xs[j]? = some r) (h2 : r[f]? = some v) (h : K v) : rowK xs j f K := by rw [rowK_def]; exact ⟨r, v, h1, h2, h⟩
theorem rowAgg_of {xs : List (List Value)} {j f n : Nat} {K : List Value → Prop} (r l : List Value) (h1 : xs[j]? = some r) (hl : l.length = n) (h2 : (r.drop f).take n = l) (h : K l) : rowAggK xs j f n K := by rw [rowAggK_def]; exact ⟨r, l, h1, hl, h2, h⟩
theorem rowStore_of {xs : List (List Value)} {j f : Nat} {vs : List Value} {K : List (List Value) → Prop} (r : List Value) (h1 : xs[j]? = some r) (hf : f + vs.length ≤ r.length) (h : K (xs.set j (setFrom r f vs))) : rowStoreK xs j f vs K := by
  rw [rowStoreK_def]; exact ⟨r, h1, hf, h⟩
theorem pref_of {i m : Nat} {z : Int} {K : SV → Prop} (l : Nat) (hz : z = l) (hl : l ≤ m) (h : K (.os i l)) : prefK i m z K := by rw [prefK_def]; exact ⟨l, hz, hl, h⟩

/-- a call that makes memory and writes none, and hands back a value that is known -/
theorem call_pure {cx : Cx} {f : FuncId} {args : List SV} {H : Heap} {S : Asn} {nx : Nat} {K : SV → Heap → Asn → Nat → Prop} (hf : ∀ as w, (callFunc f as).run cx.P w = .ok (.enter f as) w) (val : Value)
    (hc : ∀ ρ w, Abs cx.B ρ nx H S w → Calls cx.P f (SV.rfs ρ args).toArray w (fun e w' => e = .returned val ∧ Ext w w')) (h : K (.c val) H S nx) : callK cx f args H S nx K := by
  rw [callK_def]
  refine ⟨hf, fun ρ w hw => (hc ρ w hw).mono ?_⟩
  rintro e w' ⟨rfl, he⟩
  exact ⟨.c val, ρ, H, S, nx, rfl, fun _ _ => rfl, Nat.le_refl _, SV.lt_c _, hw.ext he, h⟩
/-- likewise, one of several values -/
theorem call_some {cx : Cx} {f : FuncId} {args : List SV} {H : Heap} {S : Asn} {nx : Nat} {K : SV → Heap → Asn → Nat → Prop} (hf : ∀ as w, (callFunc f as).run cx.P w = .ok (.enter f as) w) {α : Type} (val : α → Value) (p : α → Prop)
    (hc : ∀ ρ w, Abs cx.B ρ nx H S w → Calls cx.P f (SV.rfs ρ args).toArray w (fun e w' => ∃ x, p x ∧ e = .returned (val x) ∧ Ext w w')) (h : ∀ x, p x → K (.c (val x)) H S nx) : callK cx f args H S nx K := by
  rw [callK_def]
  refine ⟨hf, fun ρ w hw => (hc ρ w hw).mono ?_⟩
  rintro e w' ⟨x, hp, rfl, he⟩
  exact ⟨.c (val x), ρ, H, S, nx, rfl, fun _ _ => rfl, Nat.le_refl _, SV.lt_c _, hw.ext he, h x hp⟩

/-! ### Rows that came in -/
/-- the rows of a slice -/
def RowsI (w : World) (base : Option Addr) (k : Nat) (xs : List (List Value)) : Prop :=
  xs = [] ∨ ∃ a, base = some a ∧ ∀ i r, xs[i]? = some r → ∀ j v, r[j]? = some v → w.cell? (a.add (i * k + j)) = some v
theorem ro_row {a : Addr} {k j f : Nat} {S : Asn} {xs : List (List Value)} {K : SV → Prop} (hx : ∀ R w, S.holds R w → RowsI w (some a) k xs) (r : List Value) (v : Value) (hr : xs[j]? = some r) (hv : r[f]? = some v) (h : K (.c v)) :
    roK ((a.add (j * k)).add f) S K := by
  rw [roK_def]
  refine ⟨v, fun R w hS => ?_, h⟩
  rcases hx R w hS with h0 | ⟨a', ha, h1⟩
  · subst h0; simp at hr
  · obtain rfl : a = a' := by simpa using ha
    rw [add_add]; exact h1 j r hr f v hv
theorem ro_row0 {a : Addr} {k j : Nat} {S : Asn} {xs : List (List Value)} {K : SV → Prop} (hx : ∀ R w, S.holds R w → RowsI w (some a) k xs) (r : List Value) (v : Value) (hr : xs[j]? = some r) (hv : r[0]? = some v) (h : K (.c v)) :
    roK (a.add (j * k)) S K := by
  rw [roK_def]
  refine ⟨v, fun R w hS => ?_, h⟩
  rcases hx R w hS with h0 | ⟨a', ha, h1⟩
  · subst h0; simp at hr
  · obtain rfl : a = a' := by simpa using ha
    exact h1 j r hr 0 v hv
theorem roAgg_row {a : Addr} {k j n : Nat} {S : Asn} {xs : List (List Value)} {K : List Value → Prop} (hx : ∀ R w, S.holds R w → RowsI w (some a) k xs) (r : List Value) (hr : xs[j]? = some r) (hn : r.length = n) (h : K r) :
    roAggK (a.add (j * k)) n S K := by
  rw [roAggK_def]
  refine ⟨r, hn, fun R w hS m v hv => ?_, h⟩
  rcases hx R w hS with h0 | ⟨a', ha, h1⟩
  · subst h0; simp at hr
  · obtain rfl : a = a' := by simpa using ha
    rw [add_add]; exact h1 j r hr m v hv
theorem base_some {w : World} {base : Option Addr} {k j : Nat} {xs : List (List Value)} (h : RowsI w base k xs) (hj : j < xs.length) : ∃ a, base = some a := by
  rcases h with rfl | ⟨a, ha, _⟩
  · simp at hj
  · exact ⟨a, ha⟩

end Go.SX
