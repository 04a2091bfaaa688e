import Derived.Test.YtgndjjdeopfdkaaGreatProg
import Derived.Test.YtgndjjdeopfdkaaGreatRows
import Derived.Test.YtgndjjdeopfdkaaGreatKLowerFewer3
/- GA -/
namespace Go.Proofs.YtgndjjdeopfdkaaGreat
open Go.SX
def tab : List (Nat × TI) :=
  [(2, ⟨1, false, 6, 0, 8, .i64, [], true, [.int .i64 0]⟩),
   (3, ⟨1, false, 6, 0, 8, .i64, [], true, [.int .i64 0]⟩),
   (4, ⟨1, false, 5, 0, 1, .i64, [], true, [.bool false]⟩),
   (5, ⟨1, false, 6, 0, 1, .u8, [], true, [.int .u8 0]⟩),
   (9, ⟨1, false, 4, 0, 16, .i64, [], true, [.string .empty]⟩),
   (20, ⟨1, false, 9, 0, 16, .i64, [], true, [.nilIface]⟩),
   (22, ⟨1, false, 1, 41, 24, .i64, [], true, [.slice none 0 0]⟩),
   (24, ⟨2, true, 3, 0, 32, .i64, [(0, 1, 0), (1, 1, 0)], true, [.slice none 0 0, .int .i64 0]⟩),
   (26, ⟨5, true, 3, 0, 24, .i64, [(0, 1, 0), (1, 1, 0), (2, 1, 0), (3, 1, 0), (4, 1, 0)], true, [.int .i64 0, .bool false, .bool false, .bool false, .int .i64 0]⟩),
   (29, ⟨1, false, 1, 92, 24, .i64, [], true, [.slice none 0 0]⟩),
   (30, ⟨1, false, 1, 32, 24, .i64, [], true, [.slice none 0 0]⟩),
   (31, ⟨1, false, 1, 43, 24, .i64, [], true, [.slice none 0 0]⟩),
   (32, ⟨1, false, 1, 3, 24, .i64, [], true, [.slice none 0 0]⟩),
   (34, ⟨6, true, 3, 0, 112, .i64, [(0, 1, 0), (1, 1, 0), (2, 1, 0), (3, 1, 0), (4, 1, 0), (5, 1, 0)], true, [.int .i64 0, .slice none 0 0, .slice none 0 0, .slice none 0 0, .int .i64 0, .slice none 0 0]⟩),
   (35, ⟨1, false, 6, 0, 8, .i64, [], true, [.int .i64 0]⟩),
   (41, ⟨9, true, 3, 0, 120, .i64, [(0, 1, 0), (1, 1, 0), (2, 1, 0), (3, 1, 0), (4, 1, 0), (5, 1, 0), (6, 1, 0), (7, 1, 0), (8, 1, 0)], true, [.int .i64 0, .int .i64 0, .int .i64 0, .slice none 0 0, .int .i64 0, .int .i64 0, .int .i64 0, .slice none 0 0, .slice none 0 0]⟩),
   (43, ⟨5, true, 3, 0, 40, .i64, [(0, 1, 0), (1, 1, 0), (2, 1, 0), (3, 1, 0), (4, 1, 0)], true, [.int .i64 0, .int .i64 0, .int .i64 0, .int .i64 0, .int .i64 0]⟩),
   (45, ⟨1, false, 1, 5, 24, .i64, [], true, [.slice none 0 0]⟩),
   (47, ⟨1, false, 7, 49, 8, .i64, [], true, [.pointer none]⟩),
   (49, ⟨2, true, 3, 0, 32, .i64, [(0, 1, 0), (1, 1, 0)], true, [.slice none 0 0, .int .i64 0]⟩),
   (54, ⟨1, false, 1, 58, 24, .i64, [], true, [.slice none 0 0]⟩),
   (58, ⟨2, true, 3, 0, 16, .i64, [(0, 1, 0), (1, 1, 0)], true, [.int .i64 0, .int .i64 0]⟩),
   (59, ⟨1, false, 6, 0, 8, .u64, [], true, [.int .u64 0]⟩),
   (69, ⟨1, false, 7, 71, 8, .i64, [], true, [.pointer none]⟩),
   (71, ⟨10, true, 3, 0, 192, .i64, [(0, 6, 1), (6, 1, 0), (7, 1, 0), (8, 1, 0), (9, 1, 0)], true, [.int .i64 0, .slice none 0 0, .slice none 0 0, .slice none 0 0, .int .i64 0, .slice none 0 0, .bool false, .slice none 0 0, .slice none 0 0, .slice none 0 0]⟩),
   (74, ⟨1, false, 0, 0, 8, .i64, [], true, [.nilFunc]⟩),
   (77, ⟨1, false, 7, 79, 8, .i64, [], true, [.pointer none]⟩),
   (79, ⟨7, true, 3, 0, 120, .i64, [(0, 6, 1), (6, 1, 0)], true, [.int .i64 0, .slice none 0 0, .slice none 0 0, .slice none 0 0, .int .i64 0, .slice none 0 0, .bool false]⟩),
   (84, ⟨1, false, 0, 0, 8, .i64, [], true, [.nilFunc]⟩),
   (89, ⟨1, false, 1, 59, 24, .i64, [], true, [.slice none 0 0]⟩),
   (92, ⟨3, true, 3, 0, 40, .i64, [(0, 1, 0), (1, 1, 0), (2, 1, 0)], true, [.int .i64 0, .int .i64 0, .slice none 0 0]⟩),
   (93, ⟨1, false, 7, 96, 8, .i64, [], true, [.pointer none]⟩),
   (94, ⟨1, false, 1, 89, 24, .i64, [], true, [.slice none 0 0]⟩),
   (96, ⟨9, true, 3, 0, 168, .i64, [(0, 6, 1), (6, 1, 0), (7, 1, 0), (8, 1, 0)], true, [.int .i64 0, .slice none 0 0, .slice none 0 0, .slice none 0 0, .int .i64 0, .slice none 0 0, .int .u64 0, .slice none 0 0, .slice none 0 0]⟩),
   (97, ⟨1, false, 0, 0, 8, .i64, [], true, [.nilFunc]⟩),
   (101, ⟨1, false, 0, 0, 8, .i64, [], true, [.nilFunc]⟩),
   (102, ⟨1, false, 0, 0, 8, .i64, [], true, [.nilFunc]⟩),
   (104, ⟨12, true, 3, 0, 160, .i64, [(0, 9, 1), (9, 1, 0), (10, 1, 0), (11, 1, 0)], true, [.int .i64 0, .int .i64 0, .int .i64 0, .slice none 0 0, .int .i64 0, .int .i64 0, .int .i64 0, .slice none 0 0, .slice none 0 0, .slice none 0 0, .nilFunc, .int .i64 0]⟩),
   (106, ⟨1, false, 7, 108, 8, .i64, [], true, [.pointer none]⟩),
   (108, ⟨3, true, 3, 0, 56, .i64, [(0, 2, 1), (2, 1, 0)], true, [.slice none 0 0, .int .i64 0, .slice none 0 0]⟩),
   (109, ⟨1, false, 0, 0, 8, .i64, [], true, [.nilFunc]⟩),
   (110, ⟨1, false, 1, 109, 24, .i64, [], true, [.slice none 0 0]⟩),
   (112, ⟨1, false, 8, 0, 8, .i64, [], true, [.map none]⟩),
   (115, ⟨11, true, 3, 0, 152, .i64, [(0, 9, 1), (9, 1, 0), (10, 1, 0)], true, [.int .i64 0, .int .i64 0, .int .i64 0, .slice none 0 0, .int .i64 0, .int .i64 0, .int .i64 0, .slice none 0 0, .slice none 0 0, .int .i64 0, .slice none 0 0]⟩),
   (123, ⟨1, false, 0, 0, 8, .i64, [], true, [.nilFunc]⟩),
   (127, ⟨1, false, 7, 129, 8, .i64, [], true, [.pointer none]⟩),
   (129, ⟨3, true, 3, 0, 24, .i64, [(0, 1, 0), (1, 1, 0), (2, 1, 0)], true, [.pointer none, .int .i64 0, .bool false]⟩),
   (137, ⟨1, false, 0, 0, 8, .i64, [], true, [.nilFunc]⟩),
   (146, ⟨1, false, 0, 0, 8, .i64, [], true, [.nilFunc]⟩),
   (148, ⟨1, false, 6, 0, 8, .u64, [], true, [.int .u64 0]⟩),
   (149, ⟨1, false, 0, 0, 8, .i64, [], true, [.nilFunc]⟩),
   (150, ⟨1, false, 1, 152, 24, .i64, [], true, [.slice none 0 0]⟩),
   (152, ⟨2, true, 3, 0, 16, .i64, [(0, 1, 0), (1, 1, 0)], true, [.int .i64 0, .int .i64 0]⟩),
   (154, ⟨1, false, 0, 0, 8, .i64, [], true, [.nilFunc]⟩),
   (156, ⟨1, false, 0, 0, 8, .i64, [], true, [.nilFunc]⟩),
   (158, ⟨10, true, 3, 0, 144, .i64, [(0, 9, 1), (9, 1, 0)], true, [.int .i64 0, .int .i64 0, .int .i64 0, .slice none 0 0, .int .i64 0, .int .i64 0, .int .i64 0, .slice none 0 0, .slice none 0 0, .slice none 0 0]⟩),
   (159, ⟨1, false, 0, 0, 8, .i64, [], true, [.nilFunc]⟩),
   (161, ⟨1, false, 8, 0, 8, .i64, [], true, [.map none]⟩),
   (165, ⟨1, false, 1, 4, 24, .i64, [], true, [.slice none 0 0]⟩),
   (175, ⟨1, false, 0, 0, 8, .i64, [], true, [.nilFunc]⟩),
   (179, ⟨3, true, 3, 0, 24, .i64, [(0, 1, 0), (1, 1, 0), (2, 1, 0)], true, [.int .i64 0, .int .i64 0, .int .i64 0]⟩),
   (182, ⟨1, false, 0, 0, 8, .i64, [], true, [.nilFunc]⟩),
   (183, ⟨1, false, 0, 0, 8, .i64, [], true, [.nilFunc]⟩),
   (189, ⟨1, false, 9, 0, 16, .i64, [], true, [.nilIface]⟩),
   (196, ⟨1, false, 6, 0, 8, .i64, [], true, [.int .i64 0]⟩),
   (203, ⟨1, false, 6, 0, 4, .u32, [], true, [.int .u32 0]⟩),
   (204, ⟨1, false, 6, 0, 8, .u64, [], true, [.int .u64 0]⟩),
   (208, ⟨1, false, 7, 3, 8, .i64, [], true, [.pointer none]⟩),
   (210, ⟨1, false, 7, 204, 8, .i64, [], true, [.pointer none]⟩)]
theorem tabOk : ∀ p ∈ tab, mkTI Tryz.prog p.1 = some p.2 := by
  have h : tab.map (fun p => mkTI Tryz.prog p.1) = tab.map (fun p => some p.2) := by kernel_rfl
  intro p hp
  obtain ⟨i, hi⟩ := List.getElem?_of_mem hp
  have h1 := congrArg (fun l => l[i]?) h
  simp only [List.getElem?_map, hi, Option.map_some, Option.some.injEq] at h1
  exact h1

def entLoop : Int → List Int → Int
  | n, [] => n
  | n, d :: r => if d < 1 ∨ d > 64 / n then 0 else entLoop (n * d) r
@[irreducible] def entries (xs : List Int) : Int := if xs.length < 1 ∨ 3 < xs.length then 0 else entLoop 1 xs
theorem drop_at {α : Type} {xs : List α} {k : Nat} (h : k < xs.length) : xs.drop k = xs[k] :: xs.drop (k + 1) := List.drop_eq_getElem_cons h

set_option maxHeartbeats 1000000 in
theorem entries_any (w : World) (sb : Option Addr) (sc : Nat) (xs : List Int) (hx : RowsI w sb 1 (ints xs)) :
    Calls Tryz.prog 61 #[.slice sb xs.length sc] w fun e w' => e = .returned (.int .i64 (entries xs)) ∧ Ext w w' := by
  by_cases hl : xs.length < 1 ∨ 3 < xs.length
  · have hs : entries xs = 0 := by unfold entries; rw [if_pos hl]
    rw [hs]
    refine calls_of tab tabOk Tryz.func61 rfl rfl rfl [] (fun _ => ⟨none, 0⟩) [.c (.slice sb xs.length sc)] [] (baseA w) 0 rfl rfl (by show 1 ≤ _; decide) (abs_base w) ?_
    (repeat' ((conv => whnf) <;> first | (show Wp _ _ _ _ _ _ _; refine Wp.go tabOk rfl ?_) | (show @cmpK _ _ _; (first | refine cmpY ?_ | refine cmpN ?_ | (refine cmp_both ?_ ?_ <;> intro _))) | (show wrapK _ _ _; refine wrapA ?_) | (show leK _ _ _; refine leA ?_) | (show roomK _ _ _; refine roomA ?_) | (show ltK _ _ _; refine ltA ?_) | (show _ ∧ _; refine ⟨?_, ?_⟩) | (show keepK _ _ _ _ _; refine keepA ?_) | refine own_keep ?_ | refine ap_old ?_))
    all_goals exact fin_of fun ρ w' hw => ⟨rfl, ext_of_abs hw (fun _ _ h => h)⟩
  · have hs : entries xs = entLoop 1 xs := by unfold entries; rw [if_neg hl]
    rw [hs]
    refine calls_of tab tabOk Tryz.func61 rfl rfl rfl [] (fun _ => ⟨none, 0⟩) [.c (.slice sb xs.length sc)] [] (baseA w) 0 rfl rfl (by show 1 ≤ _; decide) (abs_base w) ?_
    (repeat' ((conv => whnf) <;> first | (show Wp _ _ _ _ _ _ _; refine Wp.go tabOk rfl ?_) | (show @cmpK _ _ _; (first | refine cmpY ?_ | refine cmpN ?_ | (refine cmp_both ?_ ?_ <;> intro _))) | (show wrapK _ _ _; refine wrapA ?_) | (show leK _ _ _; refine leA ?_) | (show roomK _ _ _; refine roomA ?_) | (show ltK _ _ _; refine ltA ?_) | (show _ ∧ _; refine ⟨?_, ?_⟩) | (show keepK _ _ _ _ _; refine keepA ?_) | refine own_keep ?_ | refine ap_old ?_))
    obtain ⟨a, rfl⟩ : ∃ a, sb = some a := base_some (j := 0) hx (by rw [ints_length]; omega)
    refine Wp.loop (σ := Nat × Int) 0 (fun ⟨k, n⟩ => [(14, .c (.slice (some a) xs.length sc)), (15, .c (.int .i64 xs.length)), (16, .c (.int .i64 k)), (3, .c (.int .i64 n))]) (fun _ => []) (fun _ => baseA w)
      (fun s => s.1 ≤ xs.length ∧ 1 ≤ s.2 ∧ s.2 ≤ 64 ∧ entLoop 1 xs = entLoop s.2 (xs.drop s.1)) (fun s => xs.length - s.1) (0, 1) [] (Nat.le_refl _) (fun s => ⟨rfl, rfl⟩) ⟨by simp, by simp, by simp, rfl⟩ ⟨rfl, ⟨rfl, rfl, rfl, rfl, trivial⟩, trivial, fun _ _ h => h⟩ ?_
    rintro ⟨k, n⟩ ⟨hk, h1, h64, he⟩
    simp only at hk h1 h64 he
    by_cases hlt : k < xs.length
    · rw [drop_at hlt] at he
      simp only [entLoop] at he
      have hdiv : 64 / n ≤ 64 := Int.ediv_le_self _ (by omega)
      have hmul : 1 ≤ xs[k] → xs[k] ≤ 64 / n → 1 ≤ n * xs[k] ∧ n * xs[k] ≤ 64 := fun g1 g2 => by
        have g3 : xs[k] * n ≤ 64 := Int.le_trans (Int.mul_le_mul_of_nonneg_right g2 (by omega)) (Int.ediv_mul_le _ (by omega))
        have g4 : n * 1 ≤ n * xs[k] := Int.mul_le_mul_of_nonneg_left g1 (by omega)
        rw [Int.mul_comm] at g3
        omega
      (repeat' ((conv => whnf) <;> first | refine idx_of a k rfl rfl hlt ?_ | refine ro_row0 (fun R w' h => rows_base h hx) _ _ (ints_get hlt) rfl ?_ | refine div_pos rfl (by omega) (by omega) (by omega) ?_ | refine wrap_i64 (by have := hmul (by omega) (by omega); omega) (by have := hmul (by omega) (by omega); omega) ?_ | (show Wp _ _ _ _ _ _ _; refine Wp.go tabOk rfl ?_) | (show @cmpK _ _ _; (first | refine cmpY ?_ | refine cmpN ?_ | (refine cmp_both ?_ ?_ <;> intro _))) | (show wrapK _ _ _; refine wrapA ?_) | (show leK _ _ _; refine leA ?_) | (show roomK _ _ _; refine roomA ?_) | (show ltK _ _ _; refine ltA ?_) | (show _ ∧ _; refine ⟨?_, ?_⟩) | (show keepK _ _ _ _ _; refine keepA ?_) | refine own_keep ?_ | refine ap_old ?_))
      · rw [if_pos (.inl (by omega))] at he
        rw [he]
        exact fin_of fun ρ w' hw => ⟨rfl, ext_of_abs hw (fun _ _ h => h)⟩
      · rw [if_pos (.inr (by omega))] at he
        rw [he]
        exact fin_of fun ρ w' hw => ⟨rfl, ext_of_abs hw (fun _ _ h => h)⟩
      · rw [if_neg (by omega)] at he
        have := hmul (by omega) (by omega)
        exact ⟨(k + 1, n * xs[k]), [], ⟨hlt, this.1, this.2, he⟩, by simp only; omega, rfl, ⟨rfl, rfl, rfl, rfl, trivial⟩, trivial, fun _ _ h => h⟩
    · have hkl : xs.drop k = [] := by simp; omega
      rw [hkl] at he
      rw [he]
      (repeat' ((conv => whnf) <;> first | (show Wp _ _ _ _ _ _ _; refine Wp.go tabOk rfl ?_) | (show @cmpK _ _ _; (first | refine cmpY ?_ | refine cmpN ?_ | (refine cmp_both ?_ ?_ <;> intro _))) | (show wrapK _ _ _; refine wrapA ?_) | (show leK _ _ _; refine leA ?_) | (show roomK _ _ _; refine roomA ?_) | (show ltK _ _ _; refine ltA ?_) | (show _ ∧ _; refine ⟨?_, ?_⟩) | (show keepK _ _ _ _ _; refine keepA ?_) | refine own_keep ?_ | refine ap_old ?_))
      exact fin_of fun ρ w' hw => ⟨rfl, ext_of_abs hw (fun _ _ h => h)⟩

/-- the document's own reckoning: the same -/
theorem entRef {n d : Int} (h1 : 1 ≤ n) (hd : 1 ≤ d) : (d > 64 / n) ↔ (n * d > 64) := by
  constructor
  · intro h
    have : 64 < n * d := by
      have h2 := Int.lt_mul_of_ediv_lt (by omega : (0:Int) < n) h
      rwa [Int.mul_comm] at h2
    omega
  · intro h
    have h2 : 64 < d * n := by rw [Int.mul_comm]; omega
    exact Int.ediv_lt_of_lt_mul (by omega) h2

end Go.Proofs.YtgndjjdeopfdkaaGreat

/- GB -/
namespace Go.Proofs.YtgndjjdeopfdkaaGreat
open Go.SX
theorem ti (t : Nat) {i : TI} (h : tab.find? (fun p => Nat.beq p.1 t) = some (t, i)) : mkTI Tryz.prog t = some i := tabOk (t, i) (List.mem_of_find?_eq_some h)
theorem mixed : Tryz.prog.follows .mixedOrders = true := by kernel_rfl
theorem ends_of {B : Base} {v : SV} {H : Heap} {S : Asn} {nx : Nat} {w : World} {val : Value} (hb : ∀ R w', S.holds R w' → (baseA B.w0).holds R w') (hv : ∀ ρ, v.rf ρ = val) (hw0 : B.w0 = w) : finK B v H S nx (fun e w' => e = .returned val ∧ Ext w w') := by
  subst hw0
  exact fin_of fun ρ w' hw => ⟨by rw [hv], ext_of_abs hw hb⟩
theorem roRows_in {a : Addr} {k m : Nat} {S : Asn} {xs : List (List Value)} {K : List (List Value) → Prop} (hm : xs.length = m) (hS : ∀ R w, S.holds R w → RowsI w (some a) k xs) (hx : ∀ r ∈ xs, r.length = k ∧ ∀ v ∈ r, v.oneCell' = true) (h : K xs) : roRowsK a m k S K := by
  rw [roRowsK_def]
  refine ⟨xs, hm, hx, fun R w hw i r hi j v hj => ?_, h⟩
  rcases hS R w hw with h0 | ⟨a', ha, h1⟩
  · subst h0; simp at hi
  · obtain rfl : a = a' := by simpa using ha
    exact h1 i r hi j v hj
theorem ends_rows {B : Base} {H : Heap} {S : Asn} {nx i n k : Nat} {T : TypeId} {xs : List (List Value)} {w : World} (hb : ∀ R w', S.holds R w' → (baseA B.w0).holds R w') (hw0 : B.w0 = w) (he : (i, Ent.rows xs k T) ∈ H) (hn : n = xs.length) :
    finK B (.os i n) H S nx (fun e w' => ∃ v, e = .returned v ∧ Ext w w' ∧ NewRows w w' v k T xs) := by
  subst hw0 hn
  exact fin_of fun ρ w' hw => ⟨_, rfl, ext_of_abs hw hb, new_of_abs hw hb he⟩
theorem ends_bool {B : Base} {b : Bool} {c : Bool} {H : Heap} {S : Asn} {nx : Nat} {w : World} (hb : ∀ R w', S.holds R w' → (baseA B.w0).holds R w') (hw0 : B.w0 = w) (h : c = b) : finK B (.c (.bool b)) H S nx (fun e w' => e = .returned (.bool c) ∧ Ext w w') :=
  ends_of hb (fun _ => by rw [h]; rfl) hw0

/-- a slice of numbers: where it stands and what it holds -/
structure IntsV where
  base : Option Addr
  cap : Nat
  xs : List Int
def IntsV.val (v : IntsV) : Value := .slice v.base v.xs.length v.cap
structure IntsV.ok (w : World) (v : IntsV) : Prop where
  rows : RowsI w v.base 1 (ints v.xs)
  fits : ∀ x ∈ v.xs, -9223372036854775808 ≤ x ∧ x ≤ 9223372036854775807
  room : v.xs.length ≤ v.cap
  few : v.xs.length ≤ 1000000
theorem IntsV.ok.base {w : World} {v : IntsV} (h : v.ok w) (hl : 0 < v.xs.length) : ∃ a, v.base = some a := base_some (j := 0) h.rows (by rw [ints_length]; exact hl)

theorem take_step {xs ys : List Int} {k : Nat} (hx : k < xs.length) (hy : k < ys.length) (h : xs.take k = ys.take k) (he : xs[k] = ys[k]) : xs.take (k + 1) = ys.take (k + 1) := by
  rw [List.take_succ_eq_append_getElem hx, List.take_succ_eq_append_getElem hy, h, he]


set_option maxHeartbeats 1000000 in
theorem same_any (w : World) (x y : IntsV) (hx : x.ok w) (hy : y.ok w) :
    Calls Tryz.prog 20 #[x.val, y.val] w fun e w' => e = .returned (.bool (decide (x.xs = y.xs))) ∧ Ext w w' := by
  obtain ⟨ab, ac, xs⟩ := x
  obtain ⟨bb, bc, ys⟩ := y
  obtain ⟨hx, _, _, hfew⟩ := hx
  obtain ⟨hy, _, _, _⟩ := hy
  simp only [IntsV.val] at *
  refine calls_of tab tabOk Tryz.func20 rfl rfl rfl [] (fun _ => ⟨none, 0⟩) [.c (.slice ab xs.length ac), .c (.slice bb ys.length bc)] [] (baseA w) 0 rfl rfl (by show 2 ≤ _; decide) (abs_base w) ?_
  (repeat' ((conv => whnf) <;> first | (show drawK _ _ _ _ _ _ _ _; refine draw_quiet tabOk mixed (by kernel_rfl) ?_) | (show Wp _ _ _ _ _ _ _; refine Wp.go tabOk rfl ?_) | (show @cmpK _ _ _; (first | refine cmpY ?_ | refine cmpN ?_ | (refine cmp_both ?_ ?_ <;> intro _))) | (show wrapK _ _ _; refine wrapA ?_) | (show leK _ _ _; refine leA ?_) | (show roomK _ _ _; refine roomA ?_) | (show ltK _ _ _; refine ltA ?_) | (show _ ∧ _; refine ⟨?_, ?_⟩) | (show keepK _ _ _ _ _; refine keepA ?_) | refine own_keep ?_ | refine ap_old ?_))
  · exact ends_bool (fun _ _ h => h) rfl (decide_eq_false (fun h => by subst h; omega))
  rename_i hne
  refine Wp.loop (σ := Nat) 0 (fun k => [(0, .c (.slice ab xs.length ac)), (1, .c (.slice bb ys.length bc)), (12, .c (.int .i64 xs.length)), (13, .c (.int .i64 k))]) (fun _ => []) (fun _ => baseA w)
      (fun k => k ≤ xs.length ∧ xs.take k = ys.take k) (fun k => xs.length - k) 0 [] (Nat.le_refl _) (fun s => ⟨rfl, rfl⟩) ⟨by simp, by simp⟩ ⟨rfl, ⟨rfl, rfl, rfl, rfl, trivial⟩, trivial, fun _ _ h => h⟩ ?_
  rintro k ⟨hk, he⟩
  by_cases hlt : k < xs.length
  · have hlt2 : k < ys.length := by omega
    obtain ⟨a, rfl⟩ : ∃ a, ab = some a := base_some (j := k) hx (by rw [ints_length]; omega)
    obtain ⟨b, rfl⟩ : ∃ a, bb = some a := base_some (j := k) hy (by rw [ints_length]; omega)
    (repeat' ((conv => whnf) <;> first | refine draw_quiet tabOk mixed (by kernel_rfl) ?_ | refine idx_of a k rfl rfl hlt ?_ | refine idx_of b k rfl rfl hlt2 ?_ | refine ro_row0 (fun R w' h => rows_base h hx) _ _ (ints_get hlt) rfl ?_ | refine ro_row0 (fun R w' h => rows_base h hy) _ _ (ints_get hlt2) rfl ?_ | (show drawK _ _ _ _ _ _ _ _; refine draw_quiet tabOk mixed (by kernel_rfl) ?_) | (show Wp _ _ _ _ _ _ _; refine Wp.go tabOk rfl ?_) | (show @cmpK _ _ _; (first | refine cmpY ?_ | refine cmpN ?_ | (refine cmp_both ?_ ?_ <;> intro _))) | (show wrapK _ _ _; refine wrapA ?_) | (show leK _ _ _; refine leA ?_) | (show roomK _ _ _; refine roomA ?_) | (show ltK _ _ _; refine ltA ?_) | (show _ ∧ _; refine ⟨?_, ?_⟩) | (show keepK _ _ _ _ _; refine keepA ?_) | refine own_keep ?_ | refine ap_old ?_))
    · exact ends_bool (fun _ _ h => h) rfl (decide_eq_false (fun h => by subst h; omega))
    · rename_i h5
      exact ⟨k + 1, [], ⟨hlt, take_step hlt hlt2 he (by omega)⟩, by omega, rfl, ⟨rfl, rfl, rfl, rfl, trivial⟩, trivial, fun _ _ h => h⟩
  · have hxy : xs = ys := by rw [List.take_of_length_le (by omega), List.take_of_length_le (by omega)] at he; exact he
    (repeat' ((conv => whnf) <;> first | (show drawK _ _ _ _ _ _ _ _; refine draw_quiet tabOk mixed (by kernel_rfl) ?_) | (show Wp _ _ _ _ _ _ _; refine Wp.go tabOk rfl ?_) | (show @cmpK _ _ _; (first | refine cmpY ?_ | refine cmpN ?_ | (refine cmp_both ?_ ?_ <;> intro _))) | (show wrapK _ _ _; refine wrapA ?_) | (show leK _ _ _; refine leA ?_) | (show roomK _ _ _; refine roomA ?_) | (show ltK _ _ _; refine ltA ?_) | (show _ ∧ _; refine ⟨?_, ?_⟩) | (show keepK _ _ _ _ _; refine keepA ?_) | refine own_keep ?_ | refine ap_old ?_))
    exact ends_bool (fun _ _ h => h) rfl (decide_eq_true hxy)

set_option maxHeartbeats 1000000 in
theorem equal_any (w : World) (x y : IntsV) (hx : x.ok w) (hy : y.ok w) :
    Calls Tryz.prog 62 #[x.val, y.val] w fun e w' => e = .returned (.bool (decide (x.xs = y.xs))) ∧ Ext w w' := by
  obtain ⟨ab, ac, xs⟩ := x
  obtain ⟨bb, bc, ys⟩ := y
  obtain ⟨hx, _, _, hfew⟩ := hx
  obtain ⟨hy, _, _, _⟩ := hy
  simp only [IntsV.val] at *
  refine calls_of tab tabOk Tryz.func62 rfl rfl rfl [] (fun _ => ⟨none, 0⟩) [.c (.slice ab xs.length ac), .c (.slice bb ys.length bc)] [] (baseA w) 0 rfl rfl (by show 2 ≤ _; decide) (abs_base w) ?_
  (repeat' ((conv => whnf) <;> first | (show drawK _ _ _ _ _ _ _ _; refine draw_quiet tabOk mixed (by kernel_rfl) ?_) | (show Wp _ _ _ _ _ _ _; refine Wp.go tabOk rfl ?_) | (show @cmpK _ _ _; (first | refine cmpY ?_ | refine cmpN ?_ | (refine cmp_both ?_ ?_ <;> intro _))) | (show wrapK _ _ _; refine wrapA ?_) | (show leK _ _ _; refine leA ?_) | (show roomK _ _ _; refine roomA ?_) | (show ltK _ _ _; refine ltA ?_) | (show _ ∧ _; refine ⟨?_, ?_⟩) | (show keepK _ _ _ _ _; refine keepA ?_) | refine own_keep ?_ | refine ap_old ?_))
  · exact ends_bool (fun _ _ h => h) rfl (decide_eq_false (fun h => by subst h; omega))
  rename_i hne
  refine Wp.loop (σ := Nat) 0 (fun k => [(0, .c (.slice ab xs.length ac)), (1, .c (.slice bb ys.length bc)), (12, .c (.int .i64 xs.length)), (13, .c (.int .i64 k))]) (fun _ => []) (fun _ => baseA w)
      (fun k => k ≤ xs.length ∧ xs.take k = ys.take k) (fun k => xs.length - k) 0 [] (Nat.le_refl _) (fun s => ⟨rfl, rfl⟩) ⟨by simp, by simp⟩ ⟨rfl, ⟨rfl, rfl, rfl, rfl, trivial⟩, trivial, fun _ _ h => h⟩ ?_
  rintro k ⟨hk, he⟩
  by_cases hlt : k < xs.length
  · have hlt2 : k < ys.length := by omega
    obtain ⟨a, rfl⟩ : ∃ a, ab = some a := base_some (j := k) hx (by rw [ints_length]; omega)
    obtain ⟨b, rfl⟩ : ∃ a, bb = some a := base_some (j := k) hy (by rw [ints_length]; omega)
    (repeat' ((conv => whnf) <;> first | refine draw_quiet tabOk mixed (by kernel_rfl) ?_ | refine idx_of a k rfl rfl hlt ?_ | refine idx_of b k rfl rfl hlt2 ?_ | refine ro_row0 (fun R w' h => rows_base h hx) _ _ (ints_get hlt) rfl ?_ | refine ro_row0 (fun R w' h => rows_base h hy) _ _ (ints_get hlt2) rfl ?_ | (show drawK _ _ _ _ _ _ _ _; refine draw_quiet tabOk mixed (by kernel_rfl) ?_) | (show Wp _ _ _ _ _ _ _; refine Wp.go tabOk rfl ?_) | (show @cmpK _ _ _; (first | refine cmpY ?_ | refine cmpN ?_ | (refine cmp_both ?_ ?_ <;> intro _))) | (show wrapK _ _ _; refine wrapA ?_) | (show leK _ _ _; refine leA ?_) | (show roomK _ _ _; refine roomA ?_) | (show ltK _ _ _; refine ltA ?_) | (show _ ∧ _; refine ⟨?_, ?_⟩) | (show keepK _ _ _ _ _; refine keepA ?_) | refine own_keep ?_ | refine ap_old ?_))
    · exact ends_bool (fun _ _ h => h) rfl (decide_eq_false (fun h => by subst h; omega))
    · rename_i h5
      exact ⟨k + 1, [], ⟨hlt, take_step hlt hlt2 he (by omega)⟩, by omega, rfl, ⟨rfl, rfl, rfl, rfl, trivial⟩, trivial, fun _ _ h => h⟩
  · have hxy : xs = ys := by rw [List.take_of_length_le (by omega), List.take_of_length_le (by omega)] at he; exact he
    (repeat' ((conv => whnf) <;> first | (show drawK _ _ _ _ _ _ _ _; refine draw_quiet tabOk mixed (by kernel_rfl) ?_) | (show Wp _ _ _ _ _ _ _; refine Wp.go tabOk rfl ?_) | (show @cmpK _ _ _; (first | refine cmpY ?_ | refine cmpN ?_ | (refine cmp_both ?_ ?_ <;> intro _))) | (show wrapK _ _ _; refine wrapA ?_) | (show leK _ _ _; refine leA ?_) | (show roomK _ _ _; refine roomA ?_) | (show ltK _ _ _; refine ltA ?_) | (show _ ∧ _; refine ⟨?_, ?_⟩) | (show keepK _ _ _ _ _; refine keepA ?_) | refine own_keep ?_ | refine ap_old ?_))
    exact ends_bool (fun _ _ h => h) rfl (decide_eq_true hxy)
end Go.Proofs.YtgndjjdeopfdkaaGreat

/- GC -/
namespace Go.Proofs.YtgndjjdeopfdkaaGreat
open Go.SX
def nearL (xs : List Int) : Bool := xs.all fun v => decide (-1048576 ≤ v ∧ v ≤ 1048576)

def foldI (f : Int → Int → Int) : List Int → Int
  | [] => 0
  | x :: r => r.foldl f x
theorem foldI_take {f : Int → Int → Int} {xs : List Int} {k : Nat} (h : k < xs.length) (h0 : 0 < k) : foldI f (xs.take (k + 1)) = f (foldI f (xs.take k)) xs[k] := by
  rw [List.take_succ_eq_append_getElem h]
  obtain ⟨x, r, e⟩ : ∃ x r, xs.take k = x :: r := by
    cases hx : xs.take k with
    | nil => have := congrArg List.length hx; rw [List.length_take, List.length_nil] at this; omega
    | cons x r => exact ⟨x, r, rfl⟩
  rw [e]
  simp [foldI]
set_option maxHeartbeats 1000000 in
theorem max_any (w : World) (x : IntsV) (hx : x.ok w) (hl : 1 ≤ x.xs.length) :
    Calls Tryz.prog 53 #[x.val] w fun e w' => e = .returned (.int .i64 (foldI max x.xs)) ∧ Ext w w' := by
  obtain ⟨ab, ac, xs⟩ := x
  obtain ⟨hx, _, _, hfew⟩ := hx
  simp only [IntsV.val] at *
  obtain ⟨a, rfl⟩ : ∃ a, ab = some a := base_some (j := 0) hx (by rw [ints_length]; omega)
  refine calls_of tab tabOk Tryz.func53 rfl rfl rfl [] (fun _ => ⟨none, 0⟩) [.c (.slice (some a) xs.length ac)] [] (baseA w) 0 rfl rfl (by show 1 ≤ _; decide) (abs_base w) ?_
  (repeat' ((conv => whnf) <;> first | refine idx_of a 0 rfl rfl hl ?_ | refine ro_row0 (fun R w' h => rows_base h hx) _ _ (ints_get hl) rfl ?_ | (show Wp _ _ _ _ _ _ _; refine Wp.go tabOk rfl ?_) | (show @cmpK _ _ _; (first | refine cmpY ?_ | refine cmpN ?_ | (refine cmp_both ?_ ?_ <;> intro _))) | (show wrapK _ _ _; refine wrapA ?_) | (show leK _ _ _; refine leA ?_) | (show roomK _ _ _; refine roomA ?_) | (show ltK _ _ _; refine ltA ?_) | (show _ ∧ _; refine ⟨?_, ?_⟩) | (show keepK _ _ _ _ _; refine keepA ?_) | refine own_keep ?_ | refine ap_old ?_))
  refine Wp.loop (σ := Nat × Int) 0 (fun ⟨k, m⟩ => [(0, .c (.slice (some a) xs.length ac)), (3, .c (.int .i64 m)), (4, .c (.int .i64 k))]) (fun _ => []) (fun _ => baseA w)
      (fun s => 1 ≤ s.1 ∧ s.1 ≤ xs.length ∧ s.2 = foldI max (xs.take s.1)) (fun s => xs.length - s.1) (1, xs[0]) [] (Nat.le_refl _) (fun s => ⟨rfl, rfl⟩) ⟨by simp, hl, by cases xs with | nil => simp at hl | cons y r => simp [foldI]⟩ ⟨rfl, ⟨rfl, rfl, rfl, trivial⟩, trivial, fun _ _ h => h⟩ ?_
  rintro ⟨k, m⟩ ⟨h1, hk, he⟩
  simp only at h1 hk he
  by_cases hlt : k < xs.length
  · have hs := foldI_take (f := max) hlt h1
    rw [← he] at hs
    (repeat' ((conv => whnf) <;> first | refine idx_of a k rfl rfl hlt ?_ | refine ro_row0 (fun R w' h => rows_base h hx) _ _ (ints_get hlt) rfl ?_ | (show Wp _ _ _ _ _ _ _; refine Wp.go tabOk rfl ?_) | (show @cmpK _ _ _; (first | refine cmpY ?_ | refine cmpN ?_ | (refine cmp_both ?_ ?_ <;> intro _))) | (show wrapK _ _ _; refine wrapA ?_) | (show leK _ _ _; refine leA ?_) | (show roomK _ _ _; refine roomA ?_) | (show ltK _ _ _; refine ltA ?_) | (show _ ∧ _; refine ⟨?_, ?_⟩) | (show keepK _ _ _ _ _; refine keepA ?_) | refine own_keep ?_ | refine ap_old ?_))
    all_goals exact ⟨(k + 1, _), [], ⟨by simp, hlt, by simp only; omega⟩, by simp only; omega, rfl, ⟨rfl, rfl, rfl, trivial⟩, trivial, fun _ _ h => h⟩
  · rw [List.take_of_length_le (by omega)] at he
    (repeat' ((conv => whnf) <;> first | (show Wp _ _ _ _ _ _ _; refine Wp.go tabOk rfl ?_) | (show @cmpK _ _ _; (first | refine cmpY ?_ | refine cmpN ?_ | (refine cmp_both ?_ ?_ <;> intro _))) | (show wrapK _ _ _; refine wrapA ?_) | (show leK _ _ _; refine leA ?_) | (show roomK _ _ _; refine roomA ?_) | (show ltK _ _ _; refine ltA ?_) | (show _ ∧ _; refine ⟨?_, ?_⟩) | (show keepK _ _ _ _ _; refine keepA ?_) | refine own_keep ?_ | refine ap_old ?_))
    exact ends_of (fun _ _ h => h) (fun _ => by rw [← he]; rfl) rfl

set_option maxHeartbeats 1000000 in
theorem min_any (w : World) (x : IntsV) (hx : x.ok w) (hl : 1 ≤ x.xs.length) :
    Calls Tryz.prog 52 #[x.val] w fun e w' => e = .returned (.int .i64 (foldI min x.xs)) ∧ Ext w w' := by
  obtain ⟨ab, ac, xs⟩ := x
  obtain ⟨hx, _, _, hfew⟩ := hx
  simp only [IntsV.val] at *
  obtain ⟨a, rfl⟩ : ∃ a, ab = some a := base_some (j := 0) hx (by rw [ints_length]; omega)
  refine calls_of tab tabOk Tryz.func52 rfl rfl rfl [] (fun _ => ⟨none, 0⟩) [.c (.slice (some a) xs.length ac)] [] (baseA w) 0 rfl rfl (by show 1 ≤ _; decide) (abs_base w) ?_
  (repeat' ((conv => whnf) <;> first | refine idx_of a 0 rfl rfl hl ?_ | refine ro_row0 (fun R w' h => rows_base h hx) _ _ (ints_get hl) rfl ?_ | (show Wp _ _ _ _ _ _ _; refine Wp.go tabOk rfl ?_) | (show @cmpK _ _ _; (first | refine cmpY ?_ | refine cmpN ?_ | (refine cmp_both ?_ ?_ <;> intro _))) | (show wrapK _ _ _; refine wrapA ?_) | (show leK _ _ _; refine leA ?_) | (show roomK _ _ _; refine roomA ?_) | (show ltK _ _ _; refine ltA ?_) | (show _ ∧ _; refine ⟨?_, ?_⟩) | (show keepK _ _ _ _ _; refine keepA ?_) | refine own_keep ?_ | refine ap_old ?_))
  refine Wp.loop (σ := Nat × Int) 0 (fun ⟨k, m⟩ => [(0, .c (.slice (some a) xs.length ac)), (3, .c (.int .i64 m)), (4, .c (.int .i64 k))]) (fun _ => []) (fun _ => baseA w)
      (fun s => 1 ≤ s.1 ∧ s.1 ≤ xs.length ∧ s.2 = foldI min (xs.take s.1)) (fun s => xs.length - s.1) (1, xs[0]) [] (Nat.le_refl _) (fun s => ⟨rfl, rfl⟩) ⟨by simp, hl, by cases xs with | nil => simp at hl | cons y r => simp [foldI]⟩ ⟨rfl, ⟨rfl, rfl, rfl, trivial⟩, trivial, fun _ _ h => h⟩ ?_
  rintro ⟨k, m⟩ ⟨h1, hk, he⟩
  simp only at h1 hk he
  by_cases hlt : k < xs.length
  · have hs := foldI_take (f := min) hlt h1
    rw [← he] at hs
    (repeat' ((conv => whnf) <;> first | refine idx_of a k rfl rfl hlt ?_ | refine ro_row0 (fun R w' h => rows_base h hx) _ _ (ints_get hlt) rfl ?_ | (show Wp _ _ _ _ _ _ _; refine Wp.go tabOk rfl ?_) | (show @cmpK _ _ _; (first | refine cmpY ?_ | refine cmpN ?_ | (refine cmp_both ?_ ?_ <;> intro _))) | (show wrapK _ _ _; refine wrapA ?_) | (show leK _ _ _; refine leA ?_) | (show roomK _ _ _; refine roomA ?_) | (show ltK _ _ _; refine ltA ?_) | (show _ ∧ _; refine ⟨?_, ?_⟩) | (show keepK _ _ _ _ _; refine keepA ?_) | refine own_keep ?_ | refine ap_old ?_))
    all_goals exact ⟨(k + 1, _), [], ⟨by simp, hlt, by simp only; omega⟩, by simp only; omega, rfl, ⟨rfl, rfl, rfl, trivial⟩, trivial, fun _ _ h => h⟩
  · rw [List.take_of_length_le (by omega)] at he
    (repeat' ((conv => whnf) <;> first | (show Wp _ _ _ _ _ _ _; refine Wp.go tabOk rfl ?_) | (show @cmpK _ _ _; (first | refine cmpY ?_ | refine cmpN ?_ | (refine cmp_both ?_ ?_ <;> intro _))) | (show wrapK _ _ _; refine wrapA ?_) | (show leK _ _ _; refine leA ?_) | (show roomK _ _ _; refine roomA ?_) | (show ltK _ _ _; refine ltA ?_) | (show _ ∧ _; refine ⟨?_, ?_⟩) | (show keepK _ _ _ _ _; refine keepA ?_) | refine own_keep ?_ | refine ap_old ?_))
    exact ends_of (fun _ _ h => h) (fun _ => by rw [← he]; rfl) rfl


set_option maxHeartbeats 1000000 in
theorem clone_any (w : World) (x : IntsV) (hx : x.ok w) (hs : 0 < x.xs.length) :
    Calls Tryz.prog 32 #[x.val] w fun e w' => ∃ v, e = .returned v ∧ Ext w w' ∧ NewRows w w' v 1 3 (ints x.xs) := by
  obtain ⟨ab, ac, xs⟩ := x
  obtain ⟨a, rfl⟩ : ∃ a, ab = some a := base_some (j := 0) hx.rows (by rw [ints_length]; exact hs)
  obtain ⟨hx, _, _, hfew⟩ := hx
  simp only [IntsV.val] at *
  refine calls_of tab tabOk Tryz.func32 rfl rfl rfl [] (fun _ => ⟨none, 0⟩) [.c (.slice (some a) xs.length ac)] [] (baseA w) 0 rfl rfl (by show 1 ≤ _; decide) (abs_base w) ?_
  (repeat' ((conv => whnf) <;> first | refine slice_nil_eql (ti 32 rfl) rfl ?_ | (show Wp _ _ _ _ _ _ _; refine Wp.go tabOk rfl ?_) | (show @cmpK _ _ _; (first | refine cmpY ?_ | refine cmpN ?_ | (refine cmp_both ?_ ?_ <;> intro _))) | (show wrapK _ _ _; refine wrapA ?_) | (show leK _ _ _; refine leA ?_) | (show roomK _ _ _; refine roomA ?_) | (show ltK _ _ _; refine ltA ?_) | (show _ ∧ _; refine ⟨?_, ?_⟩) | (show keepK _ _ _ _ _; refine keepA ?_) | refine own_keep ?_ | refine ap_old ?_))
  have hil := ints_length xs
  (repeat' ((conv => whnf) <;> first | refine slice_nil_eql (ti 32 rfl) rfl ?_ | refine roRows_in (ints_length xs) (fun R w' h => rows_base h hx) ints_row ?_ | (show Wp _ _ _ _ _ _ _; refine Wp.go tabOk rfl ?_) | (show @cmpK _ _ _; (first | refine cmpY ?_ | refine cmpN ?_ | (refine cmp_both ?_ ?_ <;> intro _))) | (show wrapK _ _ _; refine wrapA ?_) | (show leK _ _ _; refine leA ?_) | (show roomK _ _ _; refine roomA ?_) | (show ltK _ _ _; refine ltA ?_) | (show _ ∧ _; refine ⟨?_, ?_⟩) | (show keepK _ _ _ _ _; refine keepA ?_) | refine own_keep ?_ | refine ap_old ?_))
  exact ends_rows (fun _ _ h => h) rfl (.head _) (by simp [ints_length])
end Go.Proofs.YtgndjjdeopfdkaaGreat

/- GD -/
namespace Go.Proofs.YtgndjjdeopfdkaaGreat
open Go.SX
/-- a graph's node -/
structure NodeV where
  kind : Int
  a : Int
  b : Int
  shape : IntsV
  lo : Int
  hi : Int
  size : Int
  data : IntsV
  bias : IntsV
def i64 (x : Int) : Prop := -9223372036854775808 ≤ x ∧ x ≤ 9223372036854775807
structure NodeV.ok (w : World) (n : NodeV) : Prop where
  shape : n.shape.ok w
  data : n.data.ok w
  bias : n.bias.ok w
  kindFits : i64 n.kind
  aFits : i64 n.a
  bFits : i64 n.b
  loFits : i64 n.lo
  hiFits : i64 n.hi
  sizeFits : i64 n.size
def NodeV.cells (n : NodeV) : List Value := [.int .i64 n.kind, .int .i64 n.a, .int .i64 n.b, n.shape.val, .int .i64 n.lo, .int .i64 n.hi, .int .i64 n.size, n.data.val, n.bias.val]
/-- a node at its place -/
def nodeVal (n : NodeV) (at_ : Int) (sv : Value) : Value := .agg #[.int .i64 n.kind, .int .i64 n.a, .int .i64 n.b, n.shape.val, .int .i64 n.lo, .int .i64 n.hi, .int .i64 n.size, n.data.val, n.bias.val, .int .i64 at_, sv]
@[irreducible] def lacksB (n : NodeV) (a b sh sp si da bi : Bool) : Bool :=
  (a || decide (n.a = 0)) && (b || decide (n.b = 0)) && (sh || decide (n.shape.xs.length = 0)) && (sp || (decide (n.lo = 0) && decide (n.hi = 0))) && (si || decide (n.size = 0)) && (da || decide (n.data.xs.length = 0)) && (bi || decide (n.bias.xs.length = 0))

def pats : List (Bool × Bool × Bool × Bool × Bool × Bool × Bool) := [(false, false, true, true, false, false, false), (false, false, true, false, false, true, false), (true, false, false, false, false, true, true), (true, false, true, false, false, true, true), (true, false, false, false, true, false, false), (true, true, false, false, false, false, false), (true, false, false, false, false, true, false), (true, false, true, false, false, false, false)]
set_option maxRecDepth 20000 in
set_option maxHeartbeats 4000000 in
theorem lacks_any (w : World) (n : NodeV) (at_ : Int) (sv : Value) (a b sh sp si da bi : Bool) (h : (pats.contains (a, b, sh, sp, si, da, bi)) = true) :
    Calls Tryz.prog 114 #[nodeVal n at_ sv, .bool a, .bool b, .bool sh, .bool sp, .bool si, .bool da, .bool bi] w fun e w' => e = .returned (.bool (lacksB n a b sh sp si da bi)) ∧ Ext w w' := by
  have h' : (a, b, sh, sp, si, da, bi) ∈ pats := List.contains_iff_mem.1 h
  clear h
  simp only [pats, List.mem_cons, Prod.mk.injEq, List.not_mem_nil, or_false] at h'
  rcases h' with h | h | h | h | h | h | h | h
  · obtain ⟨rfl, rfl, rfl, rfl, rfl, rfl, rfl⟩ := h
    refine calls_of tab tabOk Tryz.func114 rfl rfl rfl [] (fun _ => ⟨none, 0⟩) [.agg [.c (.int .i64 n.kind), .c (.int .i64 n.a), .c (.int .i64 n.b), .c n.shape.val, .c (.int .i64 n.lo), .c (.int .i64 n.hi), .c (.int .i64 n.size), .c n.data.val, .c n.bias.val, .c (.int .i64 at_), .c sv], .c (.bool false), .c (.bool false), .c (.bool true), .c (.bool true), .c (.bool false), .c (.bool false), .c (.bool false)] [] (baseA w) 0 rfl rfl (by show 8 ≤ _; decide) (abs_base w) ?_
    (repeat' ((conv => whnf) <;> first | (show Wp _ _ _ _ _ _ _; refine Wp.go tabOk rfl ?_) | (show @cmpK _ _ _; (first | refine cmpY ?_ | refine cmpN ?_ | (refine cmp_both ?_ ?_ <;> intro _))) | (show wrapK _ _ _; refine wrapA ?_) | (show leK _ _ _; refine leA ?_) | (show roomK _ _ _; refine roomA ?_) | (show ltK _ _ _; refine ltA ?_) | (show _ ∧ _; refine ⟨?_, ?_⟩) | (show keepK _ _ _ _ _; refine keepA ?_) | refine own_keep ?_ | refine ap_old ?_))
    all_goals exact ends_bool (fun _ _ h => h) rfl (by simp only [lacksB, Bool.true_or, Bool.false_or, Bool.true_and, Bool.and_true, Bool.and_eq_true, Bool.and_eq_false_iff, decide_eq_true_eq, decide_eq_false_iff_not]; omega)
  · obtain ⟨rfl, rfl, rfl, rfl, rfl, rfl, rfl⟩ := h
    refine calls_of tab tabOk Tryz.func114 rfl rfl rfl [] (fun _ => ⟨none, 0⟩) [.agg [.c (.int .i64 n.kind), .c (.int .i64 n.a), .c (.int .i64 n.b), .c n.shape.val, .c (.int .i64 n.lo), .c (.int .i64 n.hi), .c (.int .i64 n.size), .c n.data.val, .c n.bias.val, .c (.int .i64 at_), .c sv], .c (.bool false), .c (.bool false), .c (.bool true), .c (.bool false), .c (.bool false), .c (.bool true), .c (.bool false)] [] (baseA w) 0 rfl rfl (by show 8 ≤ _; decide) (abs_base w) ?_
    (repeat' ((conv => whnf) <;> first | (show Wp _ _ _ _ _ _ _; refine Wp.go tabOk rfl ?_) | (show @cmpK _ _ _; (first | refine cmpY ?_ | refine cmpN ?_ | (refine cmp_both ?_ ?_ <;> intro _))) | (show wrapK _ _ _; refine wrapA ?_) | (show leK _ _ _; refine leA ?_) | (show roomK _ _ _; refine roomA ?_) | (show ltK _ _ _; refine ltA ?_) | (show _ ∧ _; refine ⟨?_, ?_⟩) | (show keepK _ _ _ _ _; refine keepA ?_) | refine own_keep ?_ | refine ap_old ?_))
    all_goals exact ends_bool (fun _ _ h => h) rfl (by simp only [lacksB, Bool.true_or, Bool.false_or, Bool.true_and, Bool.and_true, Bool.and_eq_true, Bool.and_eq_false_iff, decide_eq_true_eq, decide_eq_false_iff_not]; omega)
  · obtain ⟨rfl, rfl, rfl, rfl, rfl, rfl, rfl⟩ := h
    refine calls_of tab tabOk Tryz.func114 rfl rfl rfl [] (fun _ => ⟨none, 0⟩) [.agg [.c (.int .i64 n.kind), .c (.int .i64 n.a), .c (.int .i64 n.b), .c n.shape.val, .c (.int .i64 n.lo), .c (.int .i64 n.hi), .c (.int .i64 n.size), .c n.data.val, .c n.bias.val, .c (.int .i64 at_), .c sv], .c (.bool true), .c (.bool false), .c (.bool false), .c (.bool false), .c (.bool false), .c (.bool true), .c (.bool true)] [] (baseA w) 0 rfl rfl (by show 8 ≤ _; decide) (abs_base w) ?_
    (repeat' ((conv => whnf) <;> first | (show Wp _ _ _ _ _ _ _; refine Wp.go tabOk rfl ?_) | (show @cmpK _ _ _; (first | refine cmpY ?_ | refine cmpN ?_ | (refine cmp_both ?_ ?_ <;> intro _))) | (show wrapK _ _ _; refine wrapA ?_) | (show leK _ _ _; refine leA ?_) | (show roomK _ _ _; refine roomA ?_) | (show ltK _ _ _; refine ltA ?_) | (show _ ∧ _; refine ⟨?_, ?_⟩) | (show keepK _ _ _ _ _; refine keepA ?_) | refine own_keep ?_ | refine ap_old ?_))
    all_goals exact ends_bool (fun _ _ h => h) rfl (by simp only [lacksB, Bool.true_or, Bool.false_or, Bool.true_and, Bool.and_true, Bool.and_eq_true, Bool.and_eq_false_iff, decide_eq_true_eq, decide_eq_false_iff_not]; omega)
  · obtain ⟨rfl, rfl, rfl, rfl, rfl, rfl, rfl⟩ := h
    refine calls_of tab tabOk Tryz.func114 rfl rfl rfl [] (fun _ => ⟨none, 0⟩) [.agg [.c (.int .i64 n.kind), .c (.int .i64 n.a), .c (.int .i64 n.b), .c n.shape.val, .c (.int .i64 n.lo), .c (.int .i64 n.hi), .c (.int .i64 n.size), .c n.data.val, .c n.bias.val, .c (.int .i64 at_), .c sv], .c (.bool true), .c (.bool false), .c (.bool true), .c (.bool false), .c (.bool false), .c (.bool true), .c (.bool true)] [] (baseA w) 0 rfl rfl (by show 8 ≤ _; decide) (abs_base w) ?_
    (repeat' ((conv => whnf) <;> first | (show Wp _ _ _ _ _ _ _; refine Wp.go tabOk rfl ?_) | (show @cmpK _ _ _; (first | refine cmpY ?_ | refine cmpN ?_ | (refine cmp_both ?_ ?_ <;> intro _))) | (show wrapK _ _ _; refine wrapA ?_) | (show leK _ _ _; refine leA ?_) | (show roomK _ _ _; refine roomA ?_) | (show ltK _ _ _; refine ltA ?_) | (show _ ∧ _; refine ⟨?_, ?_⟩) | (show keepK _ _ _ _ _; refine keepA ?_) | refine own_keep ?_ | refine ap_old ?_))
    all_goals exact ends_bool (fun _ _ h => h) rfl (by simp only [lacksB, Bool.true_or, Bool.false_or, Bool.true_and, Bool.and_true, Bool.and_eq_true, Bool.and_eq_false_iff, decide_eq_true_eq, decide_eq_false_iff_not]; omega)
  · obtain ⟨rfl, rfl, rfl, rfl, rfl, rfl, rfl⟩ := h
    refine calls_of tab tabOk Tryz.func114 rfl rfl rfl [] (fun _ => ⟨none, 0⟩) [.agg [.c (.int .i64 n.kind), .c (.int .i64 n.a), .c (.int .i64 n.b), .c n.shape.val, .c (.int .i64 n.lo), .c (.int .i64 n.hi), .c (.int .i64 n.size), .c n.data.val, .c n.bias.val, .c (.int .i64 at_), .c sv], .c (.bool true), .c (.bool false), .c (.bool false), .c (.bool false), .c (.bool true), .c (.bool false), .c (.bool false)] [] (baseA w) 0 rfl rfl (by show 8 ≤ _; decide) (abs_base w) ?_
    (repeat' ((conv => whnf) <;> first | (show Wp _ _ _ _ _ _ _; refine Wp.go tabOk rfl ?_) | (show @cmpK _ _ _; (first | refine cmpY ?_ | refine cmpN ?_ | (refine cmp_both ?_ ?_ <;> intro _))) | (show wrapK _ _ _; refine wrapA ?_) | (show leK _ _ _; refine leA ?_) | (show roomK _ _ _; refine roomA ?_) | (show ltK _ _ _; refine ltA ?_) | (show _ ∧ _; refine ⟨?_, ?_⟩) | (show keepK _ _ _ _ _; refine keepA ?_) | refine own_keep ?_ | refine ap_old ?_))
    all_goals exact ends_bool (fun _ _ h => h) rfl (by simp only [lacksB, Bool.true_or, Bool.false_or, Bool.true_and, Bool.and_true, Bool.and_eq_true, Bool.and_eq_false_iff, decide_eq_true_eq, decide_eq_false_iff_not]; omega)
  · obtain ⟨rfl, rfl, rfl, rfl, rfl, rfl, rfl⟩ := h
    refine calls_of tab tabOk Tryz.func114 rfl rfl rfl [] (fun _ => ⟨none, 0⟩) [.agg [.c (.int .i64 n.kind), .c (.int .i64 n.a), .c (.int .i64 n.b), .c n.shape.val, .c (.int .i64 n.lo), .c (.int .i64 n.hi), .c (.int .i64 n.size), .c n.data.val, .c n.bias.val, .c (.int .i64 at_), .c sv], .c (.bool true), .c (.bool true), .c (.bool false), .c (.bool false), .c (.bool false), .c (.bool false), .c (.bool false)] [] (baseA w) 0 rfl rfl (by show 8 ≤ _; decide) (abs_base w) ?_
    (repeat' ((conv => whnf) <;> first | (show Wp _ _ _ _ _ _ _; refine Wp.go tabOk rfl ?_) | (show @cmpK _ _ _; (first | refine cmpY ?_ | refine cmpN ?_ | (refine cmp_both ?_ ?_ <;> intro _))) | (show wrapK _ _ _; refine wrapA ?_) | (show leK _ _ _; refine leA ?_) | (show roomK _ _ _; refine roomA ?_) | (show ltK _ _ _; refine ltA ?_) | (show _ ∧ _; refine ⟨?_, ?_⟩) | (show keepK _ _ _ _ _; refine keepA ?_) | refine own_keep ?_ | refine ap_old ?_))
    all_goals exact ends_bool (fun _ _ h => h) rfl (by simp only [lacksB, Bool.true_or, Bool.false_or, Bool.true_and, Bool.and_true, Bool.and_eq_true, Bool.and_eq_false_iff, decide_eq_true_eq, decide_eq_false_iff_not]; omega)
  · obtain ⟨rfl, rfl, rfl, rfl, rfl, rfl, rfl⟩ := h
    refine calls_of tab tabOk Tryz.func114 rfl rfl rfl [] (fun _ => ⟨none, 0⟩) [.agg [.c (.int .i64 n.kind), .c (.int .i64 n.a), .c (.int .i64 n.b), .c n.shape.val, .c (.int .i64 n.lo), .c (.int .i64 n.hi), .c (.int .i64 n.size), .c n.data.val, .c n.bias.val, .c (.int .i64 at_), .c sv], .c (.bool true), .c (.bool false), .c (.bool false), .c (.bool false), .c (.bool false), .c (.bool true), .c (.bool false)] [] (baseA w) 0 rfl rfl (by show 8 ≤ _; decide) (abs_base w) ?_
    (repeat' ((conv => whnf) <;> first | (show Wp _ _ _ _ _ _ _; refine Wp.go tabOk rfl ?_) | (show @cmpK _ _ _; (first | refine cmpY ?_ | refine cmpN ?_ | (refine cmp_both ?_ ?_ <;> intro _))) | (show wrapK _ _ _; refine wrapA ?_) | (show leK _ _ _; refine leA ?_) | (show roomK _ _ _; refine roomA ?_) | (show ltK _ _ _; refine ltA ?_) | (show _ ∧ _; refine ⟨?_, ?_⟩) | (show keepK _ _ _ _ _; refine keepA ?_) | refine own_keep ?_ | refine ap_old ?_))
    all_goals exact ends_bool (fun _ _ h => h) rfl (by simp only [lacksB, Bool.true_or, Bool.false_or, Bool.true_and, Bool.and_true, Bool.and_eq_true, Bool.and_eq_false_iff, decide_eq_true_eq, decide_eq_false_iff_not]; omega)
  · obtain ⟨rfl, rfl, rfl, rfl, rfl, rfl, rfl⟩ := h
    refine calls_of tab tabOk Tryz.func114 rfl rfl rfl [] (fun _ => ⟨none, 0⟩) [.agg [.c (.int .i64 n.kind), .c (.int .i64 n.a), .c (.int .i64 n.b), .c n.shape.val, .c (.int .i64 n.lo), .c (.int .i64 n.hi), .c (.int .i64 n.size), .c n.data.val, .c n.bias.val, .c (.int .i64 at_), .c sv], .c (.bool true), .c (.bool false), .c (.bool true), .c (.bool false), .c (.bool false), .c (.bool false), .c (.bool false)] [] (baseA w) 0 rfl rfl (by show 8 ≤ _; decide) (abs_base w) ?_
    (repeat' ((conv => whnf) <;> first | (show Wp _ _ _ _ _ _ _; refine Wp.go tabOk rfl ?_) | (show @cmpK _ _ _; (first | refine cmpY ?_ | refine cmpN ?_ | (refine cmp_both ?_ ?_ <;> intro _))) | (show wrapK _ _ _; refine wrapA ?_) | (show leK _ _ _; refine leA ?_) | (show roomK _ _ _; refine roomA ?_) | (show ltK _ _ _; refine ltA ?_) | (show _ ∧ _; refine ⟨?_, ?_⟩) | (show keepK _ _ _ _ _; refine keepA ?_) | refine own_keep ?_ | refine ap_old ?_))
    all_goals exact ends_bool (fun _ _ h => h) rfl (by simp only [lacksB, Bool.true_or, Bool.false_or, Bool.true_and, Bool.and_true, Bool.and_eq_true, Bool.and_eq_false_iff, decide_eq_true_eq, decide_eq_false_iff_not]; omega)
def aheadB (k at_ : Int) : Bool := decide (0 ≤ k ∧ k < at_)
theorem ahead_any (w : World) (n : NodeV) (at_ : Int) (sv : Value) (k : Int) :
    Calls Tryz.prog 115 #[nodeVal n at_ sv, .int .i64 k] w fun e w' => e = .returned (.bool (aheadB k at_)) ∧ Ext w w' := by
  refine calls_of tab tabOk Tryz.func115 rfl rfl rfl [] (fun _ => ⟨none, 0⟩) [.agg [.c (.int .i64 n.kind), .c (.int .i64 n.a), .c (.int .i64 n.b), .c n.shape.val, .c (.int .i64 n.lo), .c (.int .i64 n.hi), .c (.int .i64 n.size), .c n.data.val, .c n.bias.val, .c (.int .i64 at_), .c sv], .c (.int .i64 k)] [] (baseA w) 0 rfl rfl (by show 2 ≤ _; decide) (abs_base w) ?_
  (repeat' ((conv => whnf) <;> first | (show Wp _ _ _ _ _ _ _; refine Wp.go tabOk rfl ?_) | (show @cmpK _ _ _; (first | refine cmpY ?_ | refine cmpN ?_ | (refine cmp_both ?_ ?_ <;> intro _))) | (show wrapK _ _ _; refine wrapA ?_) | (show leK _ _ _; refine leA ?_) | (show roomK _ _ _; refine roomA ?_) | (show ltK _ _ _; refine ltA ?_) | (show _ ∧ _; refine ⟨?_, ?_⟩) | (show keepK _ _ _ _ _; refine keepA ?_) | refine own_keep ?_ | refine ap_old ?_))
  all_goals refine ends_bool (fun _ _ h => h) rfl ?_
  · exact decide_eq_true (by omega)
  · exact decide_eq_false (by omega)
  · exact decide_eq_false (by omega)

def kerLoop : Int → List Int → Int
  | n, [] => n
  | n, d :: r => if d < 1 ∨ d > 64 then 0 else kerLoop (n * d) r
@[irreducible] def kernelI (xs : List Int) : Int := if xs.length = 4 then kerLoop 1 xs else 0
set_option maxHeartbeats 1000000 in
theorem kernel_any (w : World) (n : NodeV) (hn : n.shape.ok w) (at_ : Int) (sv : Value) :
    Calls Tryz.prog 116 #[nodeVal n at_ sv] w fun e w' => e = .returned (.int .i64 (kernelI n.shape.xs)) ∧ Ext w w' := by
  by_cases h4 : n.shape.xs.length = 4
  · have hs : kernelI n.shape.xs = kerLoop 1 n.shape.xs := by unfold kernelI; rw [if_pos h4]
    rw [hs]
    obtain ⟨a, ha⟩ := hn.base (by omega)
    refine calls_of tab tabOk Tryz.func116 rfl rfl rfl [] (fun _ => ⟨none, 0⟩) [.agg [.c (.int .i64 n.kind), .c (.int .i64 n.a), .c (.int .i64 n.b), .c n.shape.val, .c (.int .i64 n.lo), .c (.int .i64 n.hi), .c (.int .i64 n.size), .c n.data.val, .c n.bias.val, .c (.int .i64 at_), .c sv]] [] (baseA w) 0 rfl rfl (by show 1 ≤ _; decide) (abs_base w) ?_
    (repeat' ((conv => whnf) <;> first | (show Wp _ _ _ _ _ _ _; refine Wp.go tabOk rfl ?_) | (show @cmpK _ _ _; (first | refine cmpY ?_ | refine cmpN ?_ | (refine cmp_both ?_ ?_ <;> intro _))) | (show wrapK _ _ _; refine wrapA ?_) | (show leK _ _ _; refine leA ?_) | (show roomK _ _ _; refine roomA ?_) | (show ltK _ _ _; refine ltA ?_) | (show _ ∧ _; refine ⟨?_, ?_⟩) | (show keepK _ _ _ _ _; refine keepA ?_) | refine own_keep ?_ | refine ap_old ?_))
    refine Wp.loop (σ := Nat × Int) 1 (fun ⟨k, m⟩ => [(13, .c n.shape.val), (14, .c (.int .i64 n.shape.xs.length)), (15, .c (.int .i64 k)), (3, .c (.int .i64 m))]) (fun _ => []) (fun _ => baseA w)
      (fun s => s.1 ≤ 4 ∧ 1 ≤ s.2 ∧ s.2 ≤ 64 ^ s.1 ∧ kerLoop 1 n.shape.xs = kerLoop s.2 (n.shape.xs.drop s.1)) (fun s => 4 - s.1) (0, 1) [] (by omega) (fun s => ⟨rfl, rfl⟩) ⟨by simp, by simp, by simp, rfl⟩ ⟨rfl, ⟨rfl, rfl, rfl, rfl, trivial⟩, trivial, fun _ _ h => h⟩ ?_
    rintro ⟨k, m⟩ ⟨hk, h1, h64, he⟩
    simp only at hk h1 h64 he
    by_cases hlt : k < n.shape.xs.length
    · rw [drop_at hlt] at he
      simp only [kerLoop] at he
      have hb : 1 ≤ n.shape.xs[k] → n.shape.xs[k] ≤ 64 → 1 ≤ m * n.shape.xs[k] ∧ m * n.shape.xs[k] ≤ 64 ^ (k + 1) ∧ m * n.shape.xs[k] ≤ 16777216 := fun g1 g2 => by
        have g3 : m * n.shape.xs[k] ≤ 64 ^ k * 64 := Int.mul_le_mul h64 g2 (by omega) (by omega)
        have g4 : m * 1 ≤ m * n.shape.xs[k] := Int.mul_le_mul_of_nonneg_left g1 (by omega)
        have g5 : (64 : Int) ^ k * 64 = 64 ^ (k + 1) := (Int.pow_succ 64 k).symm
        have g6 : (64 : Int) ^ (k + 1) ≤ 16777216 := by
          have : k = 0 ∨ k = 1 ∨ k = 2 ∨ k = 3 := by omega
          rcases this with rfl | rfl | rfl | rfl <;> decide
        omega
      (repeat' ((conv => whnf) <;> first | refine idx_of a k ha rfl hlt ?_ | refine ro_row0 (fun R w' h => by rw [← ha]; exact rows_base h hn.rows) _ _ (ints_get hlt) rfl ?_ | refine wrap_i64 (by have := hb (by omega) (by omega); omega) (by have := hb (by omega) (by omega); omega) ?_ | (show Wp _ _ _ _ _ _ _; refine Wp.go tabOk rfl ?_) | (show @cmpK _ _ _; (first | refine cmpY ?_ | refine cmpN ?_ | (refine cmp_both ?_ ?_ <;> intro _))) | (show wrapK _ _ _; refine wrapA ?_) | (show leK _ _ _; refine leA ?_) | (show roomK _ _ _; refine roomA ?_) | (show ltK _ _ _; refine ltA ?_) | (show _ ∧ _; refine ⟨?_, ?_⟩) | (show keepK _ _ _ _ _; refine keepA ?_) | refine own_keep ?_ | refine ap_old ?_))
      · rw [if_pos (.inl (by omega))] at he
        rw [he]
        exact ends_of (fun _ _ h => h) (fun _ => rfl) rfl
      · rw [if_pos (.inr (by omega))] at he
        rw [he]
        exact ends_of (fun _ _ h => h) (fun _ => rfl) rfl
      · rw [if_neg (by omega)] at he
        have := hb (by omega) (by omega)
        exact ⟨(k + 1, m * n.shape.xs[k]), [], ⟨by simp only; omega, this.1, this.2.1, he⟩, by simp only; omega, rfl, ⟨rfl, rfl, rfl, rfl, trivial⟩, trivial, fun _ _ h => h⟩
    · have hkl : n.shape.xs.drop k = [] := List.drop_of_length_le (by omega)
      rw [hkl] at he
      rw [he]
      (repeat' ((conv => whnf) <;> first | (show Wp _ _ _ _ _ _ _; refine Wp.go tabOk rfl ?_) | (show @cmpK _ _ _; (first | refine cmpY ?_ | refine cmpN ?_ | (refine cmp_both ?_ ?_ <;> intro _))) | (show wrapK _ _ _; refine wrapA ?_) | (show leK _ _ _; refine leA ?_) | (show roomK _ _ _; refine roomA ?_) | (show ltK _ _ _; refine ltA ?_) | (show _ ∧ _; refine ⟨?_, ?_⟩) | (show keepK _ _ _ _ _; refine keepA ?_) | refine own_keep ?_ | refine ap_old ?_))
      exact ends_of (fun _ _ h => h) (fun _ => rfl) rfl
  · have hs : kernelI n.shape.xs = 0 := by unfold kernelI; rw [if_neg h4]
    rw [hs]
    refine calls_of tab tabOk Tryz.func116 rfl rfl rfl [] (fun _ => ⟨none, 0⟩) [.agg [.c (.int .i64 n.kind), .c (.int .i64 n.a), .c (.int .i64 n.b), .c n.shape.val, .c (.int .i64 n.lo), .c (.int .i64 n.hi), .c (.int .i64 n.size), .c n.data.val, .c n.bias.val, .c (.int .i64 at_), .c sv]] [] (baseA w) 0 rfl rfl (by show 1 ≤ _; decide) (abs_base w) ?_
    (repeat' ((conv => whnf) <;> first | (show Wp _ _ _ _ _ _ _; refine Wp.go tabOk rfl ?_) | (show @cmpK _ _ _; (first | refine cmpY ?_ | refine cmpN ?_ | (refine cmp_both ?_ ?_ <;> intro _))) | (show wrapK _ _ _; refine wrapA ?_) | (show leK _ _ _; refine leA ?_) | (show roomK _ _ _; refine roomA ?_) | (show ltK _ _ _; refine ltA ?_) | (show _ ∧ _; refine ⟨?_, ?_⟩) | (show keepK _ _ _ _ _; refine keepA ?_) | refine own_keep ?_ | refine ap_old ?_))
    exact ends_of (fun _ _ h => h) (fun _ => rfl) rfl

/-- the shapes of those ahead -/
structure ShapesV where
  base : Option Addr
  cap : Nat
  l : List IntsV
def shRows (l : List IntsV) : List (List Value) := l.map fun s => [s.val]
def ShapesV.val (v : ShapesV) : Value := .slice v.base v.l.length v.cap
structure ShapesV.ok (w : World) (v : ShapesV) : Prop where
  rows : RowsI w v.base 1 (shRows v.l)
  each : ∀ s ∈ v.l, s.ok w
  few : v.l.length ≤ 24
theorem shRows_get {l : List IntsV} {k : Nat} (h : k < l.length) : (shRows l)[k]? = some [l[k].val] := by simp [shRows, h]
theorem shRows_length (l : List IntsV) : (shRows l).length = l.length := by simp [shRows]

theorem first_any (w : World) (n : NodeV) (at_ : Int) (sv : ShapesV) (hs : sv.ok w) (i : Nat) (s : IntsV) (hi : sv.l[i]? = some s) (ha : n.a = i) :
    Calls Tryz.prog 148 #[nodeVal n at_ sv.val] w fun e w' => e = .returned s.val ∧ Ext w w' := by
  obtain ⟨hil, rfl⟩ := List.getElem?_eq_some_iff.1 hi
  obtain ⟨a, hb⟩ : ∃ a, sv.base = some a := base_some (j := i) hs.rows (by rw [shRows_length]; exact hil)
  refine calls_of tab tabOk Tryz.func148 rfl rfl rfl [] (fun _ => ⟨none, 0⟩) [.agg [.c (.int .i64 n.kind), .c (.int .i64 n.a), .c (.int .i64 n.b), .c n.shape.val, .c (.int .i64 n.lo), .c (.int .i64 n.hi), .c (.int .i64 n.size), .c n.data.val, .c n.bias.val, .c (.int .i64 at_), .c sv.val]] [] (baseA w) 0 rfl rfl (by show 1 ≤ _; decide) (abs_base w) ?_
  (repeat' ((conv => whnf) <;> first | (show idxK _ _ _ _ _; refine idx_of a i hb ha hil ?_) | (show roK _ _ _; (refine ro_row0 (fun R w' h => by rw [← hb]; exact rows_base h hs.rows) _ _ (shRows_get hil) rfl ?_)) | (show Wp _ _ _ _ _ _ _; refine Wp.go tabOk rfl ?_) | (show @cmpK _ _ _; (first | refine cmpY ?_ | refine cmpN ?_ | (refine cmp_both ?_ ?_ <;> intro _))) | (show wrapK _ _ _; refine wrapA ?_) | (show leK _ _ _; refine leA ?_) | (show roomK _ _ _; refine roomA ?_) | (show ltK _ _ _; refine ltA ?_) | (show _ ∧ _; refine ⟨?_, ?_⟩) | (show keepK _ _ _ _ _; refine keepA ?_) | refine own_keep ?_ | refine ap_old ?_))
  exact ends_of (fun _ _ h => h) (fun _ => rfl) rfl
theorem IntsV.ok.later {w w' : World} {R : Nat → Prop} {v : IntsV} (h : v.ok w) (hb : (baseA w).holds R w') : v.ok w' := ⟨rows_base hb h.rows, h.fits, h.room, h.few⟩
theorem NodeV.ok.later {w w' : World} {R : Nat → Prop} {n : NodeV} (h : n.ok w) (hb : (baseA w).holds R w') : n.ok w' :=
  ⟨h.shape.later hb, h.data.later hb, h.bias.later hb, h.kindFits, h.aFits, h.bFits, h.loFits, h.hiFits, h.sizeFits⟩
theorem ShapesV.ok.later {w w' : World} {R : Nat → Prop} {v : ShapesV} (h : v.ok w) (hb : (baseA w).holds R w') : v.ok w' := ⟨rows_base hb h.rows, fun s hs => (h.each s hs).later hb, h.few⟩
end Go.Proofs.YtgndjjdeopfdkaaGreat

/- GE -/
namespace Go.Proofs.YtgndjjdeopfdkaaGreat
open Go.SX
theorem ints_base {w : World} {v : IntsV} (h : v.ok w) : ∃ a, 0 < v.xs.length → v.base = some a := by
  by_cases hl : 0 < v.xs.length
  · obtain ⟨a, ha⟩ := h.base hl; exact ⟨a, fun _ => ha⟩
  · exact ⟨⟨0, 0, none⟩, fun h => absurd h hl⟩
theorem ints_getD {xs : List Int} {k : Nat} (h : k < xs.length) : (ints xs)[k]? = some [.int .i64 (xs.getD k 0)] := by rw [ints_get h]; simp [List.getD, h]
theorem kernel_len {xs : List Int} (h : kernelI xs > 0) : xs.length = 4 := by
  unfold kernelI at h
  by_cases h4 : xs.length = 4
  · exact h4
  · rw [if_neg h4] at h; omega
def formB (n : NodeV) (at_ : Int) : Bool :=
  if n.kind = 1 then lacksB n false false true true false false false && decide (entries n.shape.xs > 0)
  else if n.kind = 2 then lacksB n false false true false false true false && decide (entries n.shape.xs > 0) && decide ((n.data.xs.length : Int) = entries n.shape.xs)
  else if n.kind = 3 then lacksB n true false false false false true true && aheadB n.a at_ && decide (n.bias.xs.length > 0) && decide (n.bias.xs.length ≤ 64)
  else if n.kind = 4 then lacksB n true false true false false true true && aheadB n.a at_ && decide (kernelI n.shape.xs > 0) && decide ((n.data.xs.length : Int) = kernelI n.shape.xs) && decide ((n.bias.xs.length : Int) = n.shape.xs.getD 0 0)
  else if n.kind = 5 then lacksB n true false false false true false false && aheadB n.a at_ && decide (n.size > 0)
  else if n.kind = 6 then lacksB n true true false false false false false && aheadB n.a at_ && aheadB n.b at_
  else if n.kind = 7 then lacksB n true false false false false true false && aheadB n.a at_ && decide (n.data.xs.length = 1)
  else if n.kind = 8 then lacksB n true false false false false true false && aheadB n.a at_ && decide (n.data.xs.length = 3)
  else if n.kind = 9 then lacksB n true false true false false false false && aheadB n.a at_ && decide (entries n.shape.xs > 0)
  else false

set_option maxRecDepth 20000 in
set_option maxHeartbeats 4000000 in
theorem form_any (w : World) (n : NodeV) (hn : n.ok w) (at_ : Int) (sv : Value) :
    Calls Tryz.prog 58 #[nodeVal n at_ sv] w fun e w' => e = .returned (.bool (formB n at_)) ∧ Ext w w' := by
  obtain ⟨a, hbase⟩ := ints_base hn.shape
  have hkl := @kernel_len n.shape.xs
  refine calls_of tab tabOk Tryz.func58 rfl rfl rfl [] (fun _ => ⟨none, 0⟩) [.agg [.c (.int .i64 n.kind), .c (.int .i64 n.a), .c (.int .i64 n.b), .c n.shape.val, .c (.int .i64 n.lo), .c (.int .i64 n.hi), .c (.int .i64 n.size), .c n.data.val, .c n.bias.val, .c (.int .i64 at_), .c sv]] [] (baseA w) 0 rfl rfl (by show 1 ≤ _; decide) (abs_base w) ?_
  (repeat' ((conv => whnf) <;> first | (show callK _ 61 _ _ _ _ _; refine call_pure (f := 61) Tryz.call61 _ (fun ρ w' hw => entries_any w' n.shape.base n.shape.cap n.shape.xs (holds_of_abs hw fun R h => rows_base h hn.shape.rows)) ?_) | (show callK _ 114 _ _ _ _ _; ((refine call_bool (f := 114) Tryz.call114 _ (fun ρ w' hw => lacks_any w' n at_ sv _ _ _ _ _ _ _ rfl) ?_ ?_ <;> intro hl))) | (show callK _ 115 _ _ _ _ _; ((refine call_bool (f := 115) Tryz.call115 _ (fun ρ w' hw => ahead_any w' n at_ sv _) ?_ ?_ <;> intro ha))) | (show callK _ 116 _ _ _ _ _; refine call_pure (f := 116) Tryz.call116 _ (fun ρ w' hw => kernel_any w' n (holds_of_abs hw fun R h => hn.shape.later h) at_ sv) ?_) | (show callQ _ 114 _ _ _ _ _; ((refine callQ_bool (f := 114) Tryz.call114 _ (fun ρ w' hw => lacks_any w' n at_ sv _ _ _ _ _ _ _ rfl) ?_ ?_ <;> intro hl))) | (show callQ _ 115 _ _ _ _ _; ((refine callQ_bool (f := 115) Tryz.call115 _ (fun ρ w' hw => ahead_any w' n at_ sv _) ?_ ?_ <;> intro ha))) | (show idxK _ _ _ _ _; refine idx_of a 0 (hbase (by omega)) rfl (by omega) ?_) | (show roK _ _ _; (refine ro_row0 (fun R w' h => by rw [← hbase (by omega)]; exact rows_base h hn.shape.rows) _ _ (ints_getD (by omega)) rfl ?_)) | (show drawK _ _ _ _ _ _ _ _; refine draw_quiet tabOk mixed (by kernel_rfl) ?_) | (show Wp _ _ _ _ _ _ _; refine Wp.go tabOk rfl ?_) | (show @cmpK _ _ _; (first | refine cmpY ?_ | refine cmpN ?_ | (refine cmp_both ?_ ?_ <;> intro _))) | (show wrapK _ _ _; refine wrapA ?_) | (show leK _ _ _; refine leA ?_) | (show roomK _ _ _; refine roomA ?_) | (show ltK _ _ _; refine ltA ?_) | (show _ ∧ _; refine ⟨?_, ?_⟩) | (show keepK _ _ _ _ _; refine keepA ?_) | refine own_keep ?_ | refine ap_old ?_))
  all_goals refine ends_bool (fun _ _ h => h) rfl ?_
  all_goals (unfold formB; repeat (first | rw [if_pos (by omega)] | rw [if_neg (by omega)]))
  all_goals simp only [*, Bool.true_and, Bool.false_and, Bool.and_false, Bool.and_true, Bool.and_eq_true, Bool.and_eq_false_iff, decide_eq_true_eq, decide_eq_false_iff_not]
  all_goals first | omega | simp | (simp; omega)
end Go.Proofs.YtgndjjdeopfdkaaGreat

/- GF -/
namespace Go.Proofs.YtgndjjdeopfdkaaGreat
open Go.SX Go.RowKit
theorem entLoop_bd : ∀ (xs : List Int) (n : Int), 1 ≤ n → n ≤ 64 → 0 ≤ entLoop n xs ∧ entLoop n xs ≤ 64
  | [], n, h1, h2 => ⟨by simp only [entLoop]; omega, by simpa only [entLoop] using h2⟩
  | d :: r, n, h1, h2 => by
    simp only [entLoop]
    by_cases h : d < 1 ∨ d > 64 / n
    · rw [if_pos h]; omega
    · rw [if_neg h]
      have h3 : ¬ n * d > 64 := fun g => h (.inr ((entRef h1 (by omega)).2 g))
      have h4 : n * 1 ≤ n * d := Int.mul_le_mul_of_nonneg_left (by omega) (by omega)
      exact entLoop_bd r (n * d) (by omega) (by omega)
theorem entries_bd (xs : List Int) : 0 ≤ entries xs ∧ entries xs ≤ 64 := by
  unfold entries
  split
  · omega
  · exact entLoop_bd xs 1 (by omega) (by omega)
theorem entLoop_dims : ∀ (xs : List Int) (n : Int), 1 ≤ n → n ≤ 64 → 0 < entLoop n xs → ∀ x ∈ xs, 1 ≤ x ∧ x ≤ 64
  | [], n, _, _, _, x, hx => by simp at hx
  | d :: r, n, h1, h2, h, x, hx => by
    simp only [entLoop] at h
    by_cases hc : d < 1 ∨ d > 64 / n
    · rw [if_pos hc] at h; omega
    · rw [if_neg hc] at h
      have h3 : ¬ n * d > 64 := fun g => hc (.inr ((entRef h1 (by omega)).2 g))
      have h4 : n * 1 ≤ n * d := Int.mul_le_mul_of_nonneg_left (by omega) (by omega)
      have h5 : 1 * d ≤ n * d := Int.mul_le_mul_of_nonneg_right h1 (by omega)
      rcases List.mem_cons.1 hx with rfl | hx
      · omega
      · exact entLoop_dims r (n * d) (by omega) (by omega) h x hx
theorem entries_dims {xs : List Int} (h : 0 < entries xs) : 1 ≤ xs.length ∧ xs.length ≤ 3 ∧ ∀ x ∈ xs, 1 ≤ x ∧ x ≤ 64 := by
  unfold entries at h
  by_cases hl : xs.length < 1 ∨ 3 < xs.length
  · rw [if_pos hl] at h; omega
  · rw [if_neg hl] at h
    exact ⟨by omega, by omega, entLoop_dims xs 1 (by omega) (by omega) h⟩
theorem kerLoop_dims : ∀ (xs : List Int) (n : Int), 0 < kerLoop n xs → ∀ x ∈ xs, 1 ≤ x ∧ x ≤ 64
  | [], _, _, x, hx => by simp at hx
  | d :: r, n, h, x, hx => by
    simp only [kerLoop] at h
    by_cases hc : d < 1 ∨ d > 64
    · rw [if_pos hc] at h; omega
    · rw [if_neg hc] at h
      rcases List.mem_cons.1 hx with rfl | hx
      · omega
      · exact kerLoop_dims r (n * d) h x hx
theorem kernel_dims {xs : List Int} (h : 0 < kernelI xs) : xs.length = 4 ∧ ∀ x ∈ xs, 1 ≤ x ∧ x ≤ 64 := by
  have h4 := kernel_len h
  unfold kernelI at h
  rw [if_pos h4] at h
  exact ⟨h4, kerLoop_dims xs 1 h⟩
theorem getD_mem {xs : List Int} {k : Nat} (h : k < xs.length) : xs.getD k 0 ∈ xs := by
  simp [List.getD, h]
theorem entries3 {a b c : Int} (ha : 1 ≤ a) (hb : 1 ≤ b) (hc : 1 ≤ c) (h : a * b * c ≤ 64) : 0 < entries [a, b, c] := by
  have e : entries [a, b, c] = entLoop 1 [a, b, c] := by unfold entries; rw [if_neg (by simp)]
  have h1 : 1 ≤ a * b := by have := Int.mul_le_mul ha hb (by omega) (by omega); omega
  have h2 : a * b * 1 ≤ a * b * c := Int.mul_le_mul_of_nonneg_left hc (by omega)
  have h3 : a * 1 ≤ a * b := Int.mul_le_mul_of_nonneg_left hb (by omega)
  have t1 : ¬ (a < 1 ∨ a > 64 / 1) := by
    rintro (g | g)
    · omega
    · have := (entRef (n := 1) (by omega) ha).1 g; omega
  have t2 : ¬ (b < 1 ∨ b > 64 / (1 * a)) := by
    rintro (g | g)
    · omega
    · have := (entRef (n := 1 * a) (by omega) hb).1 g; rw [Int.one_mul] at this; omega
  have t3 : ¬ (c < 1 ∨ c > 64 / (1 * a * b)) := by
    rintro (g | g)
    · omega
    · have := (entRef (n := 1 * a * b) (by rw [Int.one_mul]; omega) hc).1 g; rw [Int.one_mul] at this; omega
  rw [e]
  simp only [entLoop]
  rw [if_neg t1, if_neg t2, if_neg t3, Int.one_mul]
  omega
theorem entries3_prod {a b c : Int} (h : 0 < entries [a, b, c]) : 1 ≤ a ∧ 1 ≤ b ∧ 1 ≤ c ∧ a * b * c ≤ 64 := by
  have hd := (entries_dims h).2.2
  have ha := hd a (by simp)
  have hb := hd b (by simp)
  have hc := hd c (by simp)
  have e : entries [a, b, c] = entLoop 1 [a, b, c] := by unfold entries; rw [if_neg (by simp)]
  rw [e] at h
  simp only [entLoop] at h
  by_cases t1 : a < 1 ∨ a > 64 / 1
  · rw [if_pos t1] at h; omega
  rw [if_neg t1] at h
  by_cases t2 : b < 1 ∨ b > 64 / (1 * a)
  · rw [if_pos t2] at h; omega
  rw [if_neg t2] at h
  by_cases t3 : c < 1 ∨ c > 64 / (1 * a * b)
  · rw [if_pos t3] at h; omega
  have hab : 1 ≤ a * b := by have := Int.mul_le_mul ha.1 hb.1 (by omega) (by omega); omega
  have : ¬ (1 * a * b * c > 64) := fun g => t3 (.inr ((entRef (by rw [Int.one_mul]; exact hab) hc.1).2 g))
  rw [Int.one_mul] at this
  exact ⟨ha.1, hb.1, hc.1, by omega⟩
theorem entries1 {a : Int} (h1 : 1 ≤ a) (h2 : a ≤ 64) : 0 < entries [a] := by
  have e : entries [a] = entLoop 1 [a] := by unfold entries; rw [if_neg (by simp)]
  rw [e]
  simp only [entLoop]
  have t1 : ¬ (a < 1 ∨ a > 64 / 1) := by
    rintro (g | g)
    · omega
    · have := (entRef (n := 1) (by omega) h1).1 g; omega
  rw [if_neg t1]; omega

/-- the shape of a node of right form, with the shapes of those ahead; none: it does not go together with them -/
def shapeO (n : NodeV) (sh : List (List Int)) : Option (List Int) :=
  if n.kind = 1 ∨ n.kind = 2 then some n.shape.xs
  else if n.kind = 3 then (if (n.data.xs.length : Int) = n.bias.xs.length * entries (sh.getD n.a.toNat []) then some [(n.bias.xs.length : Int)] else none)
  else if n.kind = 4 then
    (if (sh.getD n.a.toNat []).length ≠ 3 ∨ (sh.getD n.a.toNat []).getD 0 0 ≠ n.shape.xs.getD 1 0 ∨ (sh.getD n.a.toNat []).getD 1 0 < n.shape.xs.getD 2 0 ∨ (sh.getD n.a.toNat []).getD 2 0 < n.shape.xs.getD 3 0 then none
     else if 0 < entries [n.shape.xs.getD 0 0, (sh.getD n.a.toNat []).getD 1 0 - n.shape.xs.getD 2 0 + 1, (sh.getD n.a.toNat []).getD 2 0 - n.shape.xs.getD 3 0 + 1] then some [n.shape.xs.getD 0 0, (sh.getD n.a.toNat []).getD 1 0 - n.shape.xs.getD 2 0 + 1, (sh.getD n.a.toNat []).getD 2 0 - n.shape.xs.getD 3 0 + 1] else none)
  else if n.kind = 5 then
    (if (sh.getD n.a.toNat []).length ≠ 3 ∨ (sh.getD n.a.toNat []).getD 1 0 % n.size ≠ 0 ∨ (sh.getD n.a.toNat []).getD 2 0 % n.size ≠ 0 then none
     else some [(sh.getD n.a.toNat []).getD 0 0, (sh.getD n.a.toNat []).getD 1 0 / n.size, (sh.getD n.a.toNat []).getD 2 0 / n.size])
  else if n.kind = 6 then (if sh.getD n.a.toNat [] = sh.getD n.b.toNat [] then some (sh.getD n.a.toNat []) else none)
  else if n.kind = 9 then (if entries n.shape.xs = entries (sh.getD n.a.toNat []) then some n.shape.xs else none)
  else some (sh.getD n.a.toNat [])

/-- what a node of right form has -/
structure Formed (n : NodeV) (at_ : Nat) : Prop where
  a : n.kind ≠ 1 → n.kind ≠ 2 → 0 ≤ n.a ∧ n.a < at_
  b : n.kind = 6 → 0 ≤ n.b ∧ n.b < at_
  own : n.kind = 1 ∨ n.kind = 2 ∨ n.kind = 9 → 0 < entries n.shape.xs
  bias : n.kind = 3 → 1 ≤ n.bias.xs.length ∧ n.bias.xs.length ≤ 64
  kern : n.kind = 4 → 0 < kernelI n.shape.xs
  pool : n.kind = 5 → 0 < n.size
  kind : 1 ≤ n.kind ∧ n.kind ≤ 9
theorem formed_of {n : NodeV} {at_ : Nat} (h : formB n at_ = true) : Formed n at_ := by
  unfold formB at h
  have hk : n.kind = 1 ∨ n.kind = 2 ∨ n.kind = 3 ∨ n.kind = 4 ∨ n.kind = 5 ∨ n.kind = 6 ∨ n.kind = 7 ∨ n.kind = 8 ∨ n.kind = 9 ∨ ¬ (n.kind = 1 ∨ n.kind = 2 ∨ n.kind = 3 ∨ n.kind = 4 ∨ n.kind = 5 ∨ n.kind = 6 ∨ n.kind = 7 ∨ n.kind = 8 ∨ n.kind = 9) := by omega
  rcases hk with hk | hk | hk | hk | hk | hk | hk | hk | hk | hk
  all_goals repeat (first | rw [if_pos (by omega)] at h | rw [if_neg (by omega)] at h)
  all_goals try simp only [Bool.and_eq_true, decide_eq_true_eq, aheadB] at h
  · exact ⟨by omega, by omega, by omega, by omega, by omega, by omega, by omega⟩
  · exact ⟨by omega, by omega, by omega, by omega, by omega, by omega, by omega⟩
  · exact ⟨by omega, by omega, by omega, by omega, by omega, by omega, by omega⟩
  · exact ⟨by omega, by omega, by omega, by omega, by omega, by omega, by omega⟩
  · exact ⟨by omega, by omega, by omega, by omega, by omega, by omega, by omega⟩
  · exact ⟨by omega, by omega, by omega, by omega, by omega, by omega, by omega⟩
  · exact ⟨by omega, by omega, by omega, by omega, by omega, by omega, by omega⟩
  · exact ⟨by omega, by omega, by omega, by omega, by omega, by omega, by omega⟩
  · exact ⟨by omega, by omega, by omega, by omega, by omega, by omega, by omega⟩
  · cases h

theorem getD_good {sh : List (List Int)} (hg : ∀ s ∈ sh, 0 < entries s) {i : Int} (h0 : 0 ≤ i) (h1 : i < sh.length) : 0 < entries (sh.getD i.toNat []) := by
  have hi : i.toNat < sh.length := by omega
  have : sh.getD i.toNat [] = sh[i.toNat] := by simp [List.getD, hi]
  rw [this]
  exact hg _ (List.getElem_mem hi)
theorem len3 {xs : List Int} (h : xs.length = 3) : xs = [xs.getD 0 0, xs.getD 1 0, xs.getD 2 0] := by
  match xs, h with
  | [a, b, c], _ => rfl
theorem shape_good {n : NodeV} {sh r : List (List Int)} {s : List Int} (hf : Formed n sh.length) (hg : ∀ s ∈ sh, 0 < entries s) (h : shapeO n sh = some s) (_hr : r = sh) : 0 < entries s := by
  unfold shapeO at h
  by_cases h12 : n.kind = 1 ∨ n.kind = 2
  · rw [if_pos h12] at h; cases h; exact hf.own (by omega)
  rw [if_neg h12] at h
  have ha := hf.a (by omega) (by omega)
  have hga := getD_good hg ha.1 ha.2
  by_cases h3 : n.kind = 3
  · rw [if_pos h3] at h
    split at h
    · cases h; have := hf.bias h3; exact entries1 (by omega) (by omega)
    · cases h
  rw [if_neg h3] at h
  by_cases h4 : n.kind = 4
  · rw [if_pos h4] at h
    split at h
    · cases h
    · split at h
      · cases h; assumption
      · cases h
  rw [if_neg h4] at h
  by_cases h5 : n.kind = 5
  · rw [if_pos h5] at h
    split at h
    · cases h
    · rename_i hn
      cases h
      have hs := hf.pool h5
      generalize sh.getD n.a.toNat [] = a at *
      have hl : a.length = 3 := by omega
      rw [len3 hl] at hga
      obtain ⟨p0, p1, p2, p3⟩ := entries3_prod hga
      have d1 : n.size ∣ a.getD 1 0 := Int.dvd_of_emod_eq_zero (by omega)
      have d2 : n.size ∣ a.getD 2 0 := Int.dvd_of_emod_eq_zero (by omega)
      have q1 : 1 ≤ a.getD 1 0 / n.size := by
        have := Int.ediv_mul_cancel d1
        have h0 : 0 ≤ a.getD 1 0 / n.size := Int.ediv_nonneg (by omega) (by omega)
        by_cases g : 0 < a.getD 1 0 / n.size
        · omega
        · have e : a.getD 1 0 / n.size = 0 := by omega
          rw [e] at this; omega
      have q2 : 1 ≤ a.getD 2 0 / n.size := by
        have := Int.ediv_mul_cancel d2
        have h0 : 0 ≤ a.getD 2 0 / n.size := Int.ediv_nonneg (by omega) (by omega)
        by_cases g : 0 < a.getD 2 0 / n.size
        · omega
        · have e : a.getD 2 0 / n.size = 0 := by omega
          rw [e] at this; omega
      have l1 : a.getD 1 0 / n.size ≤ a.getD 1 0 := Int.ediv_le_self _ (by omega)
      have l2 : a.getD 2 0 / n.size ≤ a.getD 2 0 := Int.ediv_le_self _ (by omega)
      have m1 : a.getD 0 0 * (a.getD 1 0 / n.size) ≤ a.getD 0 0 * a.getD 1 0 := Int.mul_le_mul_of_nonneg_left l1 (by omega)
      have m0 : 0 ≤ a.getD 0 0 * a.getD 1 0 := Int.mul_nonneg (by omega) (by omega)
      have m2 : a.getD 0 0 * (a.getD 1 0 / n.size) * (a.getD 2 0 / n.size) ≤ a.getD 0 0 * a.getD 1 0 * a.getD 2 0 := Int.mul_le_mul m1 l2 (by omega) m0
      exact entries3 p0 q1 q2 (by omega)
  rw [if_neg h5] at h
  by_cases h6 : n.kind = 6
  · rw [if_pos h6] at h
    split at h
    · cases h; exact hga
    · cases h
  rw [if_neg h6] at h
  by_cases h9 : n.kind = 9
  · rw [if_pos h9] at h
    split at h
    · cases h; exact hf.own (by omega)
    · cases h
  rw [if_neg h9] at h
  cases h; exact hga
end Go.Proofs.YtgndjjdeopfdkaaGreat

/- GG -/
namespace Go.Proofs.YtgndjjdeopfdkaaGreat
open Go.SX Go.RowKit
structure IntsV.sane (v : IntsV) : Prop where
  fits : ∀ x ∈ v.xs, -9223372036854775808 ≤ x ∧ x ≤ 9223372036854775807
  room : v.xs.length ≤ v.cap
  few : v.xs.length ≤ 1000000
theorem IntsV.ok.sane {w : World} {v : IntsV} (h : v.ok w) : v.sane := ⟨h.fits, h.room, h.few⟩
def intsA (v : IntsV) : Asn := rowsA v.base 1 (ints v.xs)
theorem intsA_ok {v : IntsV} {R : Nat → Prop} {w : World} (hs : v.sane) (h : (intsA v).holds R w) : v.ok w := ⟨rowsA_in h, hs.fits, hs.room, hs.few⟩
/-- numbers in blocks from N on -/
abbrev newA (N : Nat) (v : IntsV) : Asn := (intsA v).past N

theorem newInts {w w' : World} {v : Value} {xs : List Int} (h : NewRows w w' v 1 3 (ints xs)) (hf : ∀ x ∈ xs, -9223372036854775808 ≤ x ∧ x ≤ 9223372036854775807) (hl : xs.length ≤ 1000000) :
    ∃ u : IntsV, v = u.val ∧ u.xs = xs ∧ u.sane ∧ (intsA u).holds (fun b => w.heap.size ≤ b ∧ b < w'.heap.size) w' := by
  obtain ⟨base, cap, e, h1⟩ := newRows_data h
  obtain ⟨l, e2, F, hF, hr, hcap, _⟩ := h
  rw [e2] at e
  simp only [Value.slice.injEq] at e
  obtain ⟨e3, _, e4⟩ := e
  refine ⟨⟨base, cap, xs⟩, ?_, rfl, ⟨hf, ?_, hl⟩, h1⟩
  · rw [e2, e3, e4]; simp [IntsV.val, ints_length]
  · rw [← e4]; simpa [ints_length] using hcap

def ShapePost (w : World) (n : NodeV) (l : List IntsV) (r : Option (List Int)) (e : Ending) (w' : World) : Prop :=
  ∃ (v : Value) (ok : Bool), e = .returned (.tuple #[v, .bool ok]) ∧ Ext w w' ∧ ok = r.isSome ∧
    ∀ xs, r = some xs → ∃ u : IntsV, v = u.val ∧ u.xs = xs ∧ (u = n.shape ∨ u ∈ l ∨ (u.sane ∧ (intsA u).holds (fun b => w.heap.size ≤ b ∧ b < w'.heap.size) w'))

section
variable {B : Base} {H : Heap} {S : Asn} {nx : Nat} {w : World} {n : NodeV} {l : List IntsV} {r : Option (List Int)}
theorem ends_old (u : IntsV) (hb : ∀ R w', S.holds R w' → (baseA B.w0).holds R w') (hw0 : B.w0 = w) (hu : u = n.shape ∨ u ∈ l) (hr : r = some u.xs) : finK B (.tup [.c u.val, .c (.bool true)]) H S nx (ShapePost w n l r) := by
  subst hw0 hr
  exact fin_of fun ρ w' hw => ⟨_, true, rfl, ext_of_abs hw hb, rfl, fun xs h => ⟨u, rfl, by simpa using h, hu.elim .inl fun h => .inr (.inl h)⟩⟩
theorem ends_no {v : SV} (hb : ∀ R w', S.holds R w' → (baseA B.w0).holds R w') (hw0 : B.w0 = w) (hr : r = none) : finK B (.tup [v, .c (.bool false)]) H S nx (ShapePost w n l r) := by
  subst hw0 hr
  exact fin_of fun ρ w' hw => ⟨_, false, rfl, ext_of_abs hw hb, rfl, fun xs h => by cases h⟩
theorem ends_new {i m : Nat} {xs : List Int} (hb : ∀ R w', S.holds R w' → (baseA B.w0).holds R w') (hw0 : B.w0 = w) (he : (i, Ent.rows (ints xs) 1 3) ∈ H) (hm : m = xs.length) (hf : ∀ x ∈ xs, -9223372036854775808 ≤ x ∧ x ≤ 9223372036854775807) (hl : xs.length ≤ 1000000) (hr : r = some xs) :
    finK B (.tup [.os i m, .c (.bool true)]) H S nx (ShapePost w n l r) := by
  subst hw0 hr hm
  refine fin_of fun ρ w' hw => ?_
  have hn := new_of_abs hw hb he
  rw [ints_length] at hn
  obtain ⟨u, h1, h2, h3, h4⟩ := newInts hn hf hl
  exact ⟨_, true, rfl, ext_of_abs hw hb, rfl, fun ys h => ⟨u, h1, by rw [h2]; simpa using h, .inr (.inr ⟨h3, h4⟩)⟩⟩
end

theorem entries_ints (w : World) (s : IntsV) (h : s.ok w) : Calls Tryz.prog 61 #[s.val] w fun e w' => e = .returned (.int .i64 (entries s.xs)) ∧ Ext w w' := entries_any w s.base s.cap s.xs h.rows
theorem same_m (w : World) (n : NodeV) (at_ : Int) (sv : ShapesV) (hs : sv.ok w) (i : Nat) (s : IntsV) (hi : sv.l[i]? = some s) (ha : n.a = i) :
    Calls Tryz.prog 117 #[nodeVal n at_ sv.val] w (ShapePost w n sv.l (some s.xs)) := by
  refine calls_of tab tabOk Tryz.func117 rfl rfl rfl [] (fun _ => ⟨none, 0⟩) [.agg [.c (.int .i64 n.kind), .c (.int .i64 n.a), .c (.int .i64 n.b), .c n.shape.val, .c (.int .i64 n.lo), .c (.int .i64 n.hi), .c (.int .i64 n.size), .c n.data.val, .c n.bias.val, .c (.int .i64 at_), .c sv.val]] [] (baseA w) 0 rfl rfl (by show 1 ≤ _; decide) (abs_base w) ?_
  (repeat' ((conv => whnf) <;> first | (show callK _ 148 _ _ _ _ _; refine call_pure (f := 148) Tryz.call148 _ (fun ρ w' hw => first_any w' n at_ sv (holds_of_abs hw fun R h => hs.later h) i s hi ha) ?_) | (show Wp _ _ _ _ _ _ _; refine Wp.go tabOk rfl ?_) | (show @cmpK _ _ _; (first | refine cmpY ?_ | refine cmpN ?_ | (refine cmp_both ?_ ?_ <;> intro _))) | (show wrapK _ _ _; refine wrapA ?_) | (show leK _ _ _; refine leA ?_) | (show roomK _ _ _; refine roomA ?_) | (show ltK _ _ _; refine ltA ?_) | (show _ ∧ _; refine ⟨?_, ?_⟩) | (show keepK _ _ _ _ _; refine keepA ?_) | refine own_keep ?_ | refine ap_old ?_))
  exact ends_old s (fun _ _ h => h) rfl (.inr (List.mem_of_getElem? hi)) rfl
theorem own_m (w : World) (n : NodeV) (at_ : Int) (sv : ShapesV) :
    Calls Tryz.prog 118 #[nodeVal n at_ sv.val] w (ShapePost w n sv.l (some n.shape.xs)) := by
  refine calls_of tab tabOk Tryz.func118 rfl rfl rfl [] (fun _ => ⟨none, 0⟩) [.agg [.c (.int .i64 n.kind), .c (.int .i64 n.a), .c (.int .i64 n.b), .c n.shape.val, .c (.int .i64 n.lo), .c (.int .i64 n.hi), .c (.int .i64 n.size), .c n.data.val, .c n.bias.val, .c (.int .i64 at_), .c sv.val]] [] (baseA w) 0 rfl rfl (by show 1 ≤ _; decide) (abs_base w) ?_
  (repeat' ((conv => whnf) <;> first | (show Wp _ _ _ _ _ _ _; refine Wp.go tabOk rfl ?_) | (show @cmpK _ _ _; (first | refine cmpY ?_ | refine cmpN ?_ | (refine cmp_both ?_ ?_ <;> intro _))) | (show wrapK _ _ _; refine wrapA ?_) | (show leK _ _ _; refine leA ?_) | (show roomK _ _ _; refine roomA ?_) | (show ltK _ _ _; refine ltA ?_) | (show _ ∧ _; refine ⟨?_, ?_⟩) | (show keepK _ _ _ _ _; refine keepA ?_) | refine own_keep ?_ | refine ap_old ?_))
  exact ends_old n.shape (fun _ _ h => h) rfl (.inl rfl) rfl
set_option maxRecDepth 20000 in
theorem flat_m (w : World) (n : NodeV) (hn : n.ok w) (at_ : Int) (sv : ShapesV) (hs : sv.ok w) (i : Nat) (s : IntsV) (hi : sv.l[i]? = some s) (ha : n.a = i) :
    Calls Tryz.prog 123 #[nodeVal n at_ sv.val] w (ShapePost w n sv.l (if entries n.shape.xs = entries s.xs then some n.shape.xs else none)) := by
  have hso := hs.each s (List.mem_of_getElem? hi)
  refine calls_of tab tabOk Tryz.func123 rfl rfl rfl [] (fun _ => ⟨none, 0⟩) [.agg [.c (.int .i64 n.kind), .c (.int .i64 n.a), .c (.int .i64 n.b), .c n.shape.val, .c (.int .i64 n.lo), .c (.int .i64 n.hi), .c (.int .i64 n.size), .c n.data.val, .c n.bias.val, .c (.int .i64 at_), .c sv.val]] [] (baseA w) 0 rfl rfl (by show 1 ≤ _; decide) (abs_base w) ?_
  (repeat' ((conv => whnf) <;> first | (show callQ _ 148 _ _ _ _ _; refine callQ_of (f := 148) Tryz.call148 _ (fun ρ w' hw => first_any w' n at_ sv (holds_of_abs hw fun R h => hs.later h) i s hi ha) ?_) | (show callQ _ 61 [.c n.shape.val] _ _ _ _; refine callQ_of (f := 61) Tryz.call61 _ (fun ρ w' hw => entries_ints w' n.shape (holds_of_abs hw fun R h => hn.shape.later h)) ?_) | (show callQ _ 61 [.c s.val] _ _ _ _; refine callQ_of (f := 61) Tryz.call61 _ (fun ρ w' hw => entries_ints w' s (holds_of_abs hw fun R h => hso.later h)) ?_) | (show drawK _ _ _ _ _ _ _ _; refine draw_quiet tabOk mixed (by kernel_rfl) ?_) | (show Wp _ _ _ _ _ _ _; refine Wp.go tabOk rfl ?_) | (show @cmpK _ _ _; (first | refine cmpY ?_ | refine cmpN ?_ | (refine cmp_both ?_ ?_ <;> intro _))) | (show wrapK _ _ _; refine wrapA ?_) | (show leK _ _ _; refine leA ?_) | (show roomK _ _ _; refine roomA ?_) | (show ltK _ _ _; refine ltA ?_) | (show _ ∧ _; refine ⟨?_, ?_⟩) | (show keepK _ _ _ _ _; refine keepA ?_) | refine own_keep ?_ | refine ap_old ?_))
  · rename_i h
    rw [if_pos h]
    exact ends_old n.shape (fun _ _ h => h) rfl (.inl rfl) rfl
  · rename_i h
    rw [if_neg h]
    exact ends_no (fun _ _ h => h) rfl rfl
set_option maxRecDepth 20000 in
theorem sum_m (w : World) (n : NodeV) (at_ : Int) (sv : ShapesV) (hs : sv.ok w) (i j : Nat) (s t : IntsV) (hi : sv.l[i]? = some s) (ha : n.a = i) (hj : sv.l[j]? = some t) (hb : n.b = j) :
    Calls Tryz.prog 122 #[nodeVal n at_ sv.val] w (ShapePost w n sv.l (if s.xs = t.xs then some s.xs else none)) := by
  have hso := hs.each s (List.mem_of_getElem? hi)
  have hto := hs.each t (List.mem_of_getElem? hj)
  obtain ⟨hjl, hjt⟩ := List.getElem?_eq_some_iff.1 hj
  have hr : (shRows sv.l)[j]? = some [t.val] := by rw [shRows_get hjl, hjt]
  obtain ⟨a, hb'⟩ : ∃ a, sv.base = some a := base_some (j := j) hs.rows (by rw [shRows_length]; exact hjl)
  refine calls_of tab tabOk Tryz.func122 rfl rfl rfl [] (fun _ => ⟨none, 0⟩) [.agg [.c (.int .i64 n.kind), .c (.int .i64 n.a), .c (.int .i64 n.b), .c n.shape.val, .c (.int .i64 n.lo), .c (.int .i64 n.hi), .c (.int .i64 n.size), .c n.data.val, .c n.bias.val, .c (.int .i64 at_), .c sv.val]] [] (baseA w) 0 rfl rfl (by show 1 ≤ _; decide) (abs_base w) ?_
  (repeat' ((conv => whnf) <;> first | (show callQ _ 148 _ _ _ _ _; refine callQ_of (f := 148) Tryz.call148 _ (fun ρ w' hw => first_any w' n at_ sv (holds_of_abs hw fun R h => hs.later h) i s hi ha) ?_) | (show idxK _ _ _ _ _; refine idx_of a j hb' hb hjl ?_) | (show roK _ _ _; (refine ro_row0 (fun R w' h => by rw [← hb']; exact rows_base h hs.rows) _ _ hr rfl ?_)) | (show callQ _ 62 _ _ _ _ _; ((refine callQ_bool (f := 62) Tryz.call62 _ (fun ρ w' hw => equal_any w' s t (holds_of_abs hw fun R h => hso.later h) (holds_of_abs hw fun R h => hto.later h)) ?_ ?_ <;> intro he))) | (show drawK _ _ _ _ _ _ _ _; refine draw_quiet tabOk mixed (by kernel_rfl) ?_) | (show Wp _ _ _ _ _ _ _; refine Wp.go tabOk rfl ?_) | (show @cmpK _ _ _; (first | refine cmpY ?_ | refine cmpN ?_ | (refine cmp_both ?_ ?_ <;> intro _))) | (show wrapK _ _ _; refine wrapA ?_) | (show leK _ _ _; refine leA ?_) | (show roomK _ _ _; refine roomA ?_) | (show ltK _ _ _; refine ltA ?_) | (show _ ∧ _; refine ⟨?_, ?_⟩) | (show keepK _ _ _ _ _; refine keepA ?_) | refine own_keep ?_ | refine ap_old ?_))
  · rw [if_pos (of_decide_eq_true he)]
    exact ends_old s (fun _ _ h => h) rfl (.inr (List.mem_of_getElem? hi)) rfl
  · rw [if_neg (of_decide_eq_false he)]
    exact ends_no (fun _ _ h => h) rfl rfl

end Go.Proofs.YtgndjjdeopfdkaaGreat

/- GH -/
namespace Go.Proofs.YtgndjjdeopfdkaaGreat
abbrev dtGH0 : Go.SX.DT := (.take 0 (.take 1 (.take 2 (.take 3 (.take 5 (.take 6 (.take 7 (.take 8 (.take 9 (.take 10 (.take 11 (.take 12 (.take 13 (.alt 4 (.one 14 (.one 15 (.take 16 (.take 17 (.take 18 (.take 19 (.done))))))) (.one 14 (.alt 4 (.one 15 (.take 16 (.take 17 (.take 18 (.take 19 (.done)))))) (.one 15 (.take 16 (.take 17 (.one 4 (.take 18 (.take 19 (.done)))))))))))))))))))))))
abbrev dtGH1 : Go.SX.DT := (.take 0 (.take 1 (.take 2 (.take 3 (.take 4 (.take 5 (.take 6 (.take 7 (.take 8 (.take 9 (.take 10 (.take 11 (.take 12 (.take 13 (.take 14 (.take 15 (.take 16 (.one 17 (.take 18 (.take 19 (.done)))))))))))))))))))))
abbrev dtGH2 : Go.SX.DT := (.take 0 (.take 1 (.take 2 (.take 3 (.take 4 (.take 5 (.take 6 (.take 7 (.take 8 (.take 9 (.take 10 (.take 11 (.take 12 (.take 13 (.take 14 (.take 15 (.take 16 (.take 17 (.take 18 (.take 19 (.take 20 (.take 21 (.take 22 (.take 23 (.take 24 (.one 25 (.take 26 (.done))))))))))))))))))))))))))))
open Go.SX Go.RowKit
set_option maxRecDepth 20000 in
set_option maxHeartbeats 2000000 in
theorem dense_m (w : World) (n : NodeV) (hn : n.ok w) (at_ : Int) (sv : ShapesV) (hs : sv.ok w) (i : Nat) (s : IntsV) (hi : sv.l[i]? = some s) (ha : n.a = i) (hbi : n.bias.xs.length ≤ 64) :
    Calls Tryz.prog 119 #[nodeVal n at_ sv.val] w (ShapePost w n sv.l (if (n.data.xs.length : Int) = n.bias.xs.length * entries s.xs then some [(n.bias.xs.length : Int)] else none)) := by
  have hso := hs.each s (List.mem_of_getElem? hi)
  have hm : 0 ≤ (n.bias.xs.length : Int) * entries s.xs ∧ (n.bias.xs.length : Int) * entries s.xs ≤ 4096 := by
    have h1 := entries_bd s.xs
    have h2 : (n.bias.xs.length : Int) * entries s.xs ≤ 64 * 64 := Int.mul_le_mul (by omega) h1.2 h1.1 (by omega)
    have h3 : 0 ≤ (n.bias.xs.length : Int) * entries s.xs := Int.mul_nonneg (by omega) h1.1
    omega
  refine calls_of tab tabOk Tryz.func119 rfl rfl rfl [] (fun _ => ⟨none, 0⟩) [.agg [.c (.int .i64 n.kind), .c (.int .i64 n.a), .c (.int .i64 n.b), .c n.shape.val, .c (.int .i64 n.lo), .c (.int .i64 n.hi), .c (.int .i64 n.size), .c n.data.val, .c n.bias.val, .c (.int .i64 at_), .c sv.val]] [] (baseA w) 0 rfl rfl (by show 1 ≤ _; decide) (abs_base w) ?_
  (repeat' ((conv => whnf) <;> first | (show callK _ 148 _ _ _ _ _; refine call_pure (f := 148) Tryz.call148 _ (fun ρ w' hw => first_any w' n at_ sv (holds_of_abs hw fun R h => hs.later h) i s hi ha) ?_) | (show callK _ 61 _ _ _ _ _; refine call_pure (f := 61) Tryz.call61 _ (fun ρ w' hw => entries_ints w' s (holds_of_abs hw fun R h => hso.later h)) ?_) | (show drawK _ 1 _ _ _ _ _ _; refine draw_tree tabOk mixed [] _ dtGH0 (by kernel_rfl) (by kernel_rfl) (by kernel_rfl) (List.Sublist.refl _) ?_) | (show Wp _ _ _ _ _ _ _; refine Wp.go tabOk rfl ?_) | (show @cmpK _ _ _; (first | refine cmpY ?_ | refine cmpN ?_ | (refine cmp_both ?_ ?_ <;> intro _))) | (show wrapK _ _ _; refine wrapA ?_) | (show leK _ _ _; refine leA ?_) | (show roomK _ _ _; refine roomA ?_) | (show ltK _ _ _; refine ltA ?_) | (show _ ∧ _; refine ⟨?_, ?_⟩) | (show keepK _ _ _ _ _; refine keepA ?_) | refine own_keep ?_ | refine ap_old ?_))
  all_goals first
    | (rw [if_pos (by omega)]; exact ends_new (fun _ _ h => h) rfl List.mem_cons_self rfl (by intro x hx; simp only [List.mem_singleton] at hx; subst hx; omega) (by simp) rfl)
    | (rw [if_neg (by omega)]; exact ends_no (fun _ _ h => h) rfl rfl)

theorem IntsV.ok.at_ {w : World} {v : IntsV} {a : Addr} (h : v.ok w) (ha : v.base = some a) : ∀ (R : Nat → Prop) w', (baseA w).holds R w' → RowsI w' (some a) 1 (ints v.xs) := fun R w' hb => by rw [← ha]; exact rows_base hb h.rows
theorem mem3 {p : Int → Prop} {a b c : Int} (ha : p a) (hb : p b) (hc : p c) : ∀ x ∈ [a, b, c], p x := by
  intro x hx
  simp only [List.mem_cons, List.not_mem_nil, or_false] at hx
  rcases hx with rfl | rfl | rfl <;> assumption
set_option maxRecDepth 20000 in
set_option maxHeartbeats 4000000 in
theorem pool_m (w : World) (n : NodeV) (hn : n.ok w) (at_ : Int) (sv : ShapesV) (hs : sv.ok w) (i : Nat) (s : IntsV) (hi : sv.l[i]? = some s) (ha : n.a = i) (hz : 0 < n.size) (hg : 0 < entries s.xs) :
    Calls Tryz.prog 121 #[nodeVal n at_ sv.val] w (ShapePost w n sv.l (if s.xs.length ≠ 3 ∨ s.xs.getD 1 0 % n.size ≠ 0 ∨ s.xs.getD 2 0 % n.size ≠ 0 then none else some [s.xs.getD 0 0, s.xs.getD 1 0 / n.size, s.xs.getD 2 0 / n.size])) := by
  have hso := hs.each s (List.mem_of_getElem? hi)
  obtain ⟨hl1, hl3, hd⟩ := entries_dims hg
  obtain ⟨a, hb⟩ := hso.base (by omega)
  have hd0 : 0 < s.xs.length → 1 ≤ s.xs.getD 0 0 ∧ s.xs.getD 0 0 ≤ 64 := fun h => hd _ (getD_mem h)
  have hd1 : 1 < s.xs.length → 1 ≤ s.xs.getD 1 0 ∧ s.xs.getD 1 0 ≤ 64 := fun h => hd _ (getD_mem h)
  have hd2 : 2 < s.xs.length → 1 ≤ s.xs.getD 2 0 ∧ s.xs.getD 2 0 ≤ 64 := fun h => hd _ (getD_mem h)
  have hq1 : 1 < s.xs.length → 0 ≤ s.xs.getD 1 0 / n.size ∧ s.xs.getD 1 0 / n.size ≤ 64 := fun h => ⟨Int.ediv_nonneg (by omega) (by omega), Int.le_trans (Int.ediv_le_self _ (by omega)) (by omega)⟩
  have hq2 : 2 < s.xs.length → 0 ≤ s.xs.getD 2 0 / n.size ∧ s.xs.getD 2 0 / n.size ≤ 64 := fun h => ⟨Int.ediv_nonneg (by omega) (by omega), Int.le_trans (Int.ediv_le_self _ (by omega)) (by omega)⟩
  refine calls_of tab tabOk Tryz.func121 rfl rfl rfl [] (fun _ => ⟨none, 0⟩) [.agg [.c (.int .i64 n.kind), .c (.int .i64 n.a), .c (.int .i64 n.b), .c n.shape.val, .c (.int .i64 n.lo), .c (.int .i64 n.hi), .c (.int .i64 n.size), .c n.data.val, .c n.bias.val, .c (.int .i64 at_), .c sv.val]] [] (baseA w) 0 rfl rfl (by show 1 ≤ _; decide) (abs_base w) ?_
  (repeat' ((conv => whnf) <;> first | (show callK _ 148 _ _ _ _ _; refine call_pure (f := 148) Tryz.call148 _ (fun ρ w' hw => first_any w' n at_ sv (holds_of_abs hw fun R h => hs.later h) i s hi ha) ?_) | (show idxK _ _ _ _ _; refine idx_of _ 0 hb rfl (by omega) ?_) | (show roK _ _ _; refine ro_int (hso.at_ hb) (j := 0) (by omega) ?_) | (show idxK _ _ _ _ _; refine idx_of _ 1 hb rfl (by omega) ?_) | (show roK _ _ _; refine ro_int (hso.at_ hb) (j := 1) (by omega) ?_) | (show idxK _ _ _ _ _; refine idx_of _ 2 hb rfl (by omega) ?_) | (show roK _ _ _; refine ro_int (hso.at_ hb) (j := 2) (by omega) ?_) | (show remK _ _ _; refine rem_pos (by omega) (by omega) ?_) | (show divK _ _ _ _; refine div_pos rfl (by omega) (by omega) (by omega) ?_) | (show drawK _ 4 _ _ _ _ _ _; refine draw_tree tabOk mixed [] _ dtGH1 (by kernel_rfl) (by kernel_rfl) (by kernel_rfl) (List.Sublist.refl _) ?_) | (show drawK _ _ _ _ _ _ _ _; refine draw_quiet tabOk mixed (by kernel_rfl) ?_) | (show Wp _ _ _ _ _ _ _; refine Wp.go tabOk rfl ?_) | (show @cmpK _ _ _; (first | refine cmpY ?_ | refine cmpN ?_ | (refine cmp_both ?_ ?_ <;> intro _))) | (show wrapK _ _ _; refine wrapA ?_) | (show leK _ _ _; refine leA ?_) | (show roomK _ _ _; refine roomA ?_) | (show ltK _ _ _; refine ltA ?_) | (show _ ∧ _; refine ⟨?_, ?_⟩) | (show keepK _ _ _ _ _; refine keepA ?_) | refine own_keep ?_ | refine ap_old ?_))
  all_goals first
    | (rw [if_neg (by omega)]; exact ends_new (fun _ _ h => h) rfl List.mem_cons_self rfl (mem3 (by omega) (by omega) (by omega)) (by simp) rfl)
    | (rw [if_pos (by omega)]; exact ends_no (fun _ _ h => h) rfl rfl)

set_option maxRecDepth 20000 in
set_option maxHeartbeats 4000000 in
theorem conv_m (w : World) (n : NodeV) (hn : n.ok w) (at_ : Int) (sv : ShapesV) (hs : sv.ok w) (i : Nat) (s : IntsV) (hi : sv.l[i]? = some s) (ha : n.a = i) (hk : 0 < kernelI n.shape.xs) (hg : 0 < entries s.xs) :
    Calls Tryz.prog 120 #[nodeVal n at_ sv.val] w (ShapePost w n sv.l (
      if s.xs.length ≠ 3 ∨ s.xs.getD 0 0 ≠ n.shape.xs.getD 1 0 ∨ s.xs.getD 1 0 < n.shape.xs.getD 2 0 ∨ s.xs.getD 2 0 < n.shape.xs.getD 3 0 then none
      else if 0 < entries [n.shape.xs.getD 0 0, s.xs.getD 1 0 - n.shape.xs.getD 2 0 + 1, s.xs.getD 2 0 - n.shape.xs.getD 3 0 + 1] then some [n.shape.xs.getD 0 0, s.xs.getD 1 0 - n.shape.xs.getD 2 0 + 1, s.xs.getD 2 0 - n.shape.xs.getD 3 0 + 1] else none)) := by
  have hso := hs.each s (List.mem_of_getElem? hi)
  obtain ⟨hl1, hl3, hd⟩ := entries_dims hg
  obtain ⟨a, hb⟩ := hso.base (by omega)
  obtain ⟨hk4, hkd⟩ := kernel_dims hk
  obtain ⟨c, hc⟩ := hn.shape.base (by omega)
  have hd0 : 0 < s.xs.length → 1 ≤ s.xs.getD 0 0 ∧ s.xs.getD 0 0 ≤ 64 := fun h => hd _ (getD_mem h)
  have hd1 : 1 < s.xs.length → 1 ≤ s.xs.getD 1 0 ∧ s.xs.getD 1 0 ≤ 64 := fun h => hd _ (getD_mem h)
  have hd2 : 2 < s.xs.length → 1 ≤ s.xs.getD 2 0 ∧ s.xs.getD 2 0 ≤ 64 := fun h => hd _ (getD_mem h)
  have hk0 := hkd _ (getD_mem (k := 0) (by omega))
  have hk1 := hkd _ (getD_mem (k := 1) (by omega))
  have hk2 := hkd _ (getD_mem (k := 2) (by omega))
  have hk3 := hkd _ (getD_mem (k := 3) (by omega))
  refine calls_of tab tabOk Tryz.func120 rfl rfl rfl [] (fun _ => ⟨none, 0⟩) [.agg [.c (.int .i64 n.kind), .c (.int .i64 n.a), .c (.int .i64 n.b), .c n.shape.val, .c (.int .i64 n.lo), .c (.int .i64 n.hi), .c (.int .i64 n.size), .c n.data.val, .c n.bias.val, .c (.int .i64 at_), .c sv.val]] [] (baseA w) 0 rfl rfl (by show 1 ≤ _; decide) (abs_base w) ?_
  (repeat' ((conv => whnf) <;> first | (show callK _ 148 _ _ _ _ _; refine call_pure (f := 148) Tryz.call148 _ (fun ρ w' hw => first_any w' n at_ sv (holds_of_abs hw fun R h => hs.later h) i s hi ha) ?_) | (show idxK _ _ _ _ _; refine idx_of _ 0 hb rfl (by omega) ?_) | (show roK _ _ _; refine ro_int (hso.at_ hb) (j := 0) (by omega) ?_) | (show idxK _ _ _ _ _; refine idx_of _ 1 hb rfl (by omega) ?_) | (show roK _ _ _; refine ro_int (hso.at_ hb) (j := 1) (by omega) ?_) | (show idxK _ _ _ _ _; refine idx_of _ 2 hb rfl (by omega) ?_) | (show roK _ _ _; refine ro_int (hso.at_ hb) (j := 2) (by omega) ?_) | (show idxK _ _ _ _ _; refine idx_of _ 0 hc rfl (by omega) ?_) | (show roK _ _ _; refine ro_int (hn.shape.at_ hc) (j := 0) (by omega) ?_) | (show idxK _ _ _ _ _; refine idx_of _ 1 hc rfl (by omega) ?_) | (show roK _ _ _; refine ro_int (hn.shape.at_ hc) (j := 1) (by omega) ?_) | (show idxK _ _ _ _ _; refine idx_of _ 2 hc rfl (by omega) ?_) | (show roK _ _ _; refine ro_int (hn.shape.at_ hc) (j := 2) (by omega) ?_) | (show idxK _ _ _ _ _; refine idx_of _ 3 hc rfl (by omega) ?_) | (show roK _ _ _; refine ro_int (hn.shape.at_ hc) (j := 3) (by omega) ?_) | (show callK _ 61 _ _ _ _ _; refine call_pure (f := 61) Tryz.call61 _ (fun ρ w' hw => entries_any w' (ρ 1).base (ρ 1).cap [n.shape.xs.getD 0 0, s.xs.getD 1 0 - n.shape.xs.getD 2 0 + 1, s.xs.getD 2 0 - n.shape.xs.getD 3 0 + 1] (rows_of_abs hw List.mem_cons_self)) ?_) | (show drawK _ 4 _ _ _ _ _ _; refine draw_tree tabOk mixed [] _ dtGH2 (by kernel_rfl) (by kernel_rfl) (by kernel_rfl) (List.Sublist.refl _) ?_) | (show drawK _ _ _ _ _ _ _ _; refine draw_quiet tabOk mixed (by kernel_rfl) ?_) | (show Wp _ _ _ _ _ _ _; refine Wp.go tabOk rfl ?_) | (show @cmpK _ _ _; (first | refine cmpY ?_ | refine cmpN ?_ | (refine cmp_both ?_ ?_ <;> intro _))) | (show wrapK _ _ _; refine wrapA ?_) | (show leK _ _ _; refine leA ?_) | (show roomK _ _ _; refine roomA ?_) | (show ltK _ _ _; refine ltA ?_) | (show _ ∧ _; refine ⟨?_, ?_⟩) | (show keepK _ _ _ _ _; refine keepA ?_) | refine own_keep ?_ | refine ap_old ?_))
  all_goals first
    | (rw [if_neg (by omega), if_pos (by omega)]; exact ends_new (fun _ _ h => h) rfl List.mem_cons_self rfl (mem3 (by omega) (by omega) (by omega)) (by simp) rfl)
    | (rw [if_neg (by omega), if_neg (by omega)]; exact ends_no (fun _ _ h => h) rfl rfl)
    | (rw [if_pos (by omega)]; exact ends_no (fun _ _ h => h) rfl rfl)
end Go.Proofs.YtgndjjdeopfdkaaGreat

/- GI -/
namespace Go.Proofs.YtgndjjdeopfdkaaGreat
open Go.SX Go.RowKit
theorem call_shape {cx : Cx} {f : FuncId} {args : List SV} {H : Heap} {S : Asn} {nx : Nat} {K : SV → Heap → Asn → Nat → Prop} {n : NodeV} {l : List IntsV} (R0 : Option (List Int)) {r : Option (List Int)} (hf : ∀ ar w, (callFunc f ar).run cx.P w = .ok (.enter f ar) w) (hr : R0 = r)
    (hc : ∀ ρ w', Abs cx.B ρ nx H S w' → Calls cx.P f (SV.rfs ρ args).toArray w' (ShapePost w' n l r))
    (h0 : R0 = none → ∀ v, K (.c (.tuple #[v, .bool false])) H S nx)
    (h1 : ∀ u : IntsV, R0 = some u.xs → (u = n.shape ∨ u ∈ l) → K (.c (.tuple #[u.val, .bool true])) H S nx)
    (h2 : ∀ u : IntsV, R0 = some u.xs → u.sane → K (.c (.tuple #[u.val, .bool true])) H (S.and (newA cx.B.w0.heap.size u)) nx) : callK cx f args H S nx K := by
  subst hr
  rw [callK_def]
  refine ⟨hf, fun ρ w hw => (hc ρ w hw).mono ?_⟩
  rintro e w' ⟨v, ok, rfl, he, hok, hv⟩
  cases hr : R0 with
  | none =>
    rw [hr] at hok
    obtain rfl : ok = false := hok
    exact ⟨.c (.tuple #[v, .bool false]), ρ, H, S, nx, rfl, fun _ _ => rfl, Nat.le_refl _, SV.lt_c _, hw.ext he, h0 hr v⟩
  | some xs =>
    rw [hr] at hok
    obtain rfl : ok = true := hok
    obtain ⟨u, rfl, hu, hcase⟩ := hv xs hr
    rw [← hu] at hr
    rcases hcase with hcase | hcase | ⟨hsane, hnew⟩
    · exact ⟨.c (.tuple #[u.val, .bool true]), ρ, H, S, nx, rfl, fun _ _ => rfl, Nat.le_refl _, SV.lt_c _, hw.ext he, h1 u hr (.inl hcase)⟩
    · exact ⟨.c (.tuple #[u.val, .bool true]), ρ, H, S, nx, rfl, fun _ _ => rfl, Nat.le_refl _, SV.lt_c _, hw.ext he, h1 u hr (.inr hcase)⟩
    · refine ⟨.c (.tuple #[u.val, .bool true]), ρ, H, S.and (newA cx.B.w0.heap.size u), nx, rfl, fun _ _ => rfl, Nat.le_refl _, SV.lt_c _, ?_, h2 u hr hsane⟩
      obtain ⟨R, φ, hwR⟩ := hw
      have hwR' := hwR.step (Step.of_ext he) (fun _ _ h => h) (fun _ _ _ _ h => h)
      refine ⟨fun b => R b ∨ (w.heap.size ≤ b ∧ b < w'.heap.size), φ, hwR'.os, hwR'.tape, hwR'.output, hwR'.size, hwR'.pin, fun b hb => hb.elim (hwR'.ro b) (fun h => h.2), ⟨S.stable (fun _ h => .inl h) (fun _ _ => rfl) hwR'.asn, ?_⟩, hwR'.key, hwR'.ent, fun p hp b hb hb' => ?_, hwR'.sep⟩
      · exact (intsA u).stable (fun b hb => ⟨.inr hb, Nat.le_trans hwR.size hb.1⟩) (fun _ _ => rfl) hnew
      · rcases hb' with hb' | hb'
        · exact hwR'.apart p hp b hb hb'
        · have := Ent.size (hwR.ent p hp) hb; omega
theorem ends_newA {B : Base} {H : Heap} {S : Asn} {nx : Nat} {w : World} {n : NodeV} {l : List IntsV} {r : Option (List Int)} (u : IntsV) (hb : ∀ R w', S.holds R w' → (baseA B.w0).holds R w') (hw0 : B.w0 = w) (hs : u.sane) (hr : r = some u.xs) :
    finK B (.tup [.c u.val, .c (.bool true)]) H (S.and (newA B.w0.heap.size u)) nx (ShapePost w n l r) := by
  subst hw0 hr
  refine fin_of fun ρ w' hw => ⟨_, true, rfl, ext_of_abs hw (fun R w' h => hb R w' h.1), rfl, fun xs h => ⟨u, rfl, by simpa using h, .inr (.inr ⟨hs, ?_⟩)⟩⟩
  obtain ⟨R, φ, hw⟩ := hw
  exact (intsA u).stable (fun b hb => ⟨hb.2, hw.ro b hb.1⟩) (fun _ _ => rfl) hw.asn.2

set_option maxRecDepth 20000 in
set_option maxHeartbeats 4000000 in
theorem shape_any (w : World) (n : NodeV) (hn : n.ok w) (at_ : Int) (sv : ShapesV) (hs : sv.ok w) (hf : Formed n sv.l.length) (hg : ∀ s ∈ sv.l, 0 < entries s.xs) :
    Calls Tryz.prog 59 #[nodeVal n at_ sv.val] w (ShapePost w n sv.l (shapeO n (sv.l.map (·.xs)))) := by
  by_cases h12 : n.kind = 1 ∨ n.kind = 2
  · have hsp : shapeO n (sv.l.map (·.xs)) = some n.shape.xs := by unfold shapeO; rw [if_pos h12]
    refine calls_of tab tabOk Tryz.func59 rfl rfl rfl [] (fun _ => ⟨none, 0⟩) [.agg [.c (.int .i64 n.kind), .c (.int .i64 n.a), .c (.int .i64 n.b), .c n.shape.val, .c (.int .i64 n.lo), .c (.int .i64 n.hi), .c (.int .i64 n.size), .c n.data.val, .c n.bias.val, .c (.int .i64 at_), .c sv.val]] [] (baseA w) 0 rfl rfl (by show 1 ≤ _; decide) (abs_base w) ?_
    (repeat' ((conv => whnf) <;> first | (show callK _ 118 _ _ _ _ _; (refine call_shape (f := 118) (n := n) (l := sv.l) (shapeO n (sv.l.map (·.xs))) Tryz.call118 hsp (fun ρ w' hw => own_m w' n at_ sv) ?_ ?_ ?_ <;> intros)) | (show Wp _ _ _ _ _ _ _; refine Wp.go tabOk rfl ?_) | (show @cmpK _ _ _; (first | refine cmpY ?_ | refine cmpN ?_ | (refine cmp_both ?_ ?_ <;> intro _))) | (show wrapK _ _ _; refine wrapA ?_) | (show leK _ _ _; refine leA ?_) | (show roomK _ _ _; refine roomA ?_) | (show ltK _ _ _; refine ltA ?_) | (show _ ∧ _; refine ⟨?_, ?_⟩) | (show keepK _ _ _ _ _; refine keepA ?_) | refine own_keep ?_ | refine ap_old ?_))
    all_goals first
      | exact ends_no (fun _ _ h => h) rfl (by assumption)
      | exact ends_old _ (fun _ _ h => h) rfl (by assumption) (by assumption)
      | exact ends_newA _ (fun _ _ h => h) rfl (by assumption) (by assumption)
  · obtain ⟨ha0, ha1⟩ := hf.a (by omega) (by omega)
    obtain ⟨i, hia⟩ := Int.eq_ofNat_of_zero_le ha0
    have hil : i < sv.l.length := by omega
    obtain ⟨s, hi⟩ : ∃ s, sv.l[i]? = some s := ⟨_, List.getElem?_eq_getElem hil⟩
    have hA : (sv.l.map (·.xs)).getD n.a.toNat [] = s.xs := by rw [hia]; simp [List.getD, hi]
    have hgs := hg s (List.mem_of_getElem? hi)
    by_cases h6 : n.kind = 6
    · obtain ⟨hb0, hb1⟩ := hf.b h6
      obtain ⟨j, hjb⟩ := Int.eq_ofNat_of_zero_le hb0
      have hjl : j < sv.l.length := by omega
      obtain ⟨t, hj⟩ : ∃ t, sv.l[j]? = some t := ⟨_, List.getElem?_eq_getElem hjl⟩
      have hB : (sv.l.map (·.xs)).getD n.b.toNat [] = t.xs := by rw [hjb]; simp [List.getD, hj]
      have hsp : shapeO n (sv.l.map (·.xs)) = if s.xs = t.xs then some s.xs else none := by
        unfold shapeO; simp only [hA, hB]; repeat (first | rw [if_pos (by omega)] | rw [if_neg (by omega)])
      refine calls_of tab tabOk Tryz.func59 rfl rfl rfl [] (fun _ => ⟨none, 0⟩) [.agg [.c (.int .i64 n.kind), .c (.int .i64 n.a), .c (.int .i64 n.b), .c n.shape.val, .c (.int .i64 n.lo), .c (.int .i64 n.hi), .c (.int .i64 n.size), .c n.data.val, .c n.bias.val, .c (.int .i64 at_), .c sv.val]] [] (baseA w) 0 rfl rfl (by show 1 ≤ _; decide) (abs_base w) ?_
      (repeat' ((conv => whnf) <;> first | (show callK _ 122 _ _ _ _ _; (refine call_shape (f := 122) (n := n) (l := sv.l) (shapeO n (sv.l.map (·.xs))) Tryz.call122 hsp (fun ρ w' hw => sum_m w' n at_ sv (holds_of_abs hw fun R h => hs.later h) i j s t hi hia hj hjb) ?_ ?_ ?_ <;> intros)) | (show Wp _ _ _ _ _ _ _; refine Wp.go tabOk rfl ?_) | (show @cmpK _ _ _; (first | refine cmpY ?_ | refine cmpN ?_ | (refine cmp_both ?_ ?_ <;> intro _))) | (show wrapK _ _ _; refine wrapA ?_) | (show leK _ _ _; refine leA ?_) | (show roomK _ _ _; refine roomA ?_) | (show ltK _ _ _; refine ltA ?_) | (show _ ∧ _; refine ⟨?_, ?_⟩) | (show keepK _ _ _ _ _; refine keepA ?_) | refine own_keep ?_ | refine ap_old ?_))
      all_goals first
        | exact ends_no (fun _ _ h => h) rfl (by assumption)
        | exact ends_old _ (fun _ _ h => h) rfl (by assumption) (by assumption)
        | exact ends_newA _ (fun _ _ h => h) rfl (by assumption) (by assumption)
    · refine calls_of tab tabOk Tryz.func59 rfl rfl rfl [] (fun _ => ⟨none, 0⟩) [.agg [.c (.int .i64 n.kind), .c (.int .i64 n.a), .c (.int .i64 n.b), .c n.shape.val, .c (.int .i64 n.lo), .c (.int .i64 n.hi), .c (.int .i64 n.size), .c n.data.val, .c n.bias.val, .c (.int .i64 at_), .c sv.val]] [] (baseA w) 0 rfl rfl (by show 1 ≤ _; decide) (abs_base w) ?_
      (repeat' ((conv => whnf) <;> first | (show callK _ 117 _ _ _ _ _; (refine call_shape (f := 117) (n := n) (l := sv.l) (shapeO n (sv.l.map (·.xs))) Tryz.call117 (by unfold shapeO; simp only [hA]; repeat (first | rw [if_pos (by omega)] | rw [if_neg (by omega)])) (fun ρ w' hw => same_m w' n at_ sv (holds_of_abs hw fun R h => hs.later h) i s hi hia) ?_ ?_ ?_ <;> intros)) | (show callK _ 119 _ _ _ _ _; (refine call_shape (f := 119) (n := n) (l := sv.l) (shapeO n (sv.l.map (·.xs))) Tryz.call119 (by unfold shapeO; simp only [hA]; repeat (first | rw [if_pos (by omega)] | rw [if_neg (by omega)])) (fun ρ w' hw => dense_m w' n (holds_of_abs hw fun R h => hn.later h) at_ sv (holds_of_abs hw fun R h => hs.later h) i s hi hia (hf.bias (by omega)).2) ?_ ?_ ?_ <;> intros)) | (show callK _ 120 _ _ _ _ _; (refine call_shape (f := 120) (n := n) (l := sv.l) (shapeO n (sv.l.map (·.xs))) Tryz.call120 (by unfold shapeO; simp only [hA]; repeat (first | rw [if_pos (by omega)] | rw [if_neg (by omega)])) (fun ρ w' hw => conv_m w' n (holds_of_abs hw fun R h => hn.later h) at_ sv (holds_of_abs hw fun R h => hs.later h) i s hi hia (hf.kern (by omega)) hgs) ?_ ?_ ?_ <;> intros)) | (show callK _ 121 _ _ _ _ _; (refine call_shape (f := 121) (n := n) (l := sv.l) (shapeO n (sv.l.map (·.xs))) Tryz.call121 (by unfold shapeO; simp only [hA]; repeat (first | rw [if_pos (by omega)] | rw [if_neg (by omega)])) (fun ρ w' hw => pool_m w' n (holds_of_abs hw fun R h => hn.later h) at_ sv (holds_of_abs hw fun R h => hs.later h) i s hi hia (hf.pool (by omega)) hgs) ?_ ?_ ?_ <;> intros)) | (show callK _ 123 _ _ _ _ _; (refine call_shape (f := 123) (n := n) (l := sv.l) (shapeO n (sv.l.map (·.xs))) Tryz.call123 (by unfold shapeO; simp only [hA]; repeat (first | rw [if_pos (by omega)] | rw [if_neg (by omega)])) (fun ρ w' hw => flat_m w' n (holds_of_abs hw fun R h => hn.later h) at_ sv (holds_of_abs hw fun R h => hs.later h) i s hi hia) ?_ ?_ ?_ <;> intros)) | (show Wp _ _ _ _ _ _ _; refine Wp.go tabOk rfl ?_) | (show @cmpK _ _ _; (first | refine cmpY ?_ | refine cmpN ?_ | (refine cmp_both ?_ ?_ <;> intro _))) | (show wrapK _ _ _; refine wrapA ?_) | (show leK _ _ _; refine leA ?_) | (show roomK _ _ _; refine roomA ?_) | (show ltK _ _ _; refine ltA ?_) | (show _ ∧ _; refine ⟨?_, ?_⟩) | (show keepK _ _ _ _ _; refine keepA ?_) | refine own_keep ?_ | refine ap_old ?_))
      all_goals first
        | exact ends_no (fun _ _ h => h) rfl (by assumption)
        | exact ends_old _ (fun _ _ h => h) rfl (by assumption) (by assumption)
        | exact ends_newA _ (fun _ _ h => h) rfl (by assumption) (by assumption)
end Go.Proofs.YtgndjjdeopfdkaaGreat

/- GJ -/
namespace Go.Proofs.YtgndjjdeopfdkaaGreat
open Go.SX Go.RowKit
theorem slice_nil {base : Option Addr} {len cap size : Nat} {K : SV → Prop} (hb : base = none) (hl : len = 0) (h : K (.c (.slice none 0 0))) : sliceK base len cap size none (some (len : Int)) (some (len : Int)) K := by
  subst hb hl
  exact slice_full (Nat.zero_le _) h
theorem slice_some {base : Option Addr} {len cap size : Nat} {K : SV → Prop} {a : Addr} (hb : base = some a) (hc : len ≤ cap) (h : K (.c (.slice (some a) len len))) : sliceK base len cap size none (some (len : Int)) (some (len : Int)) K := by
  subst hb
  exact slice_full hc h
/-- one's own numbers -/
theorem own_ints {B : Base} {ρ : Nat → SX.Loc} {nx : Nat} {H : Heap} {S : Asn} {w : World} {i m : Nat} {T : TypeId} {R : List (List Value)} {xs : List Int} (hw : Abs B ρ nx H S w) (he : (i, Ent.rows R 1 T) ∈ H) (hR : R = ints xs) (hm : m = xs.length) (hf : ∀ x ∈ xs, i64 x) (hl : xs.length ≤ 1000000) :
    ∃ v : IntsV, (SV.rfs ρ [.os i m]).toArray = #[v.val] ∧ v.xs = xs ∧ v.ok w := by
  subst hR hm
  refine ⟨⟨(ρ i).base, (ρ i).cap, xs⟩, rfl, rfl, rows_of_abs hw he, hf, ?_, hl⟩
  obtain ⟨R, φ, hw⟩ := hw
  have := (hw.ent _ he).2.1
  simpa [ints_length] using this
theorem max_own {B : Base} {ρ : Nat → SX.Loc} {nx : Nat} {H : Heap} {S : Asn} {w : World} {i m : Nat} {T : TypeId} {R : List (List Value)} {xs : List Int} (hw : Abs B ρ nx H S w) (he : (i, Ent.rows R 1 T) ∈ H) (hR : R = ints xs) (hm : m = xs.length) (hf : ∀ x ∈ xs, i64 x) (hl : xs.length ≤ 1000000) (h1 : 1 ≤ xs.length) :
    Calls Tryz.prog 53 (SV.rfs ρ [.os i m]).toArray w fun e w' => e = .returned (.int .i64 (foldI max xs)) ∧ Ext w w' := by
  obtain ⟨v, e1, rfl, hv⟩ := own_ints hw he hR hm hf hl
  rw [e1]; exact max_any w v hv h1
theorem min_own {B : Base} {ρ : Nat → SX.Loc} {nx : Nat} {H : Heap} {S : Asn} {w : World} {i m : Nat} {T : TypeId} {R : List (List Value)} {xs : List Int} (hw : Abs B ρ nx H S w) (he : (i, Ent.rows R 1 T) ∈ H) (hR : R = ints xs) (hm : m = xs.length) (hf : ∀ x ∈ xs, i64 x) (hl : xs.length ≤ 1000000) (h1 : 1 ≤ xs.length) :
    Calls Tryz.prog 52 (SV.rfs ρ [.os i m]).toArray w fun e w' => e = .returned (.int .i64 (foldI min xs)) ∧ Ext w w' := by
  obtain ⟨v, e1, rfl, hv⟩ := own_ints hw he hR hm hf hl
  rw [e1]; exact min_any w v hv h1

theorem foldl_max_le : ∀ (xs : List Int) (a b : Int), xs.foldl max a ≤ b ↔ a ≤ b ∧ ∀ x ∈ xs, x ≤ b
  | [], a, b => by simp
  | x :: r, a, b => by
    rw [List.foldl_cons, foldl_max_le r]
    simp only [List.mem_cons, forall_eq_or_imp]
    constructor
    · rintro ⟨h1, h2⟩; exact ⟨by omega, by omega, h2⟩
    · rintro ⟨h1, h2, h3⟩; exact ⟨by omega, h3⟩
theorem le_foldl_min : ∀ (xs : List Int) (a b : Int), b ≤ xs.foldl min a ↔ b ≤ a ∧ ∀ x ∈ xs, b ≤ x
  | [], a, b => by simp
  | x :: r, a, b => by
    rw [List.foldl_cons, le_foldl_min r]
    simp only [List.mem_cons, forall_eq_or_imp]
    constructor
    · rintro ⟨h1, h2⟩; exact ⟨by omega, by omega, h2⟩
    · rintro ⟨h1, h2, h3⟩; exact ⟨by omega, h3⟩
theorem foldI_max_le {xs : List Int} {b : Int} (h : xs ≠ []) : foldI max xs ≤ b ↔ ∀ x ∈ xs, x ≤ b := by
  cases xs with
  | nil => exact absurd rfl h
  | cons x r => simp only [foldI, foldl_max_le, List.mem_cons, forall_eq_or_imp]
theorem le_foldI_min {xs : List Int} {b : Int} (h : xs ≠ []) : b ≤ foldI min xs ↔ ∀ x ∈ xs, b ≤ x := by
  cases xs with
  | nil => exact absurd rfl h
  | cons x r => simp only [foldI, le_foldl_min, List.mem_cons, forall_eq_or_imp]
theorem nearL_fold (xs : List Int) : nearL xs = decide (foldI max (xs ++ [0]) ≤ 1048576 ∧ -1048576 ≤ foldI min (xs ++ [0])) := by
  rw [nearL, Bool.eq_iff_iff]
  simp only [List.all_eq_true, decide_eq_true_eq]
  rw [foldI_max_le (by simp), le_foldI_min (by simp)]
  simp only [List.mem_append, List.mem_singleton]
  constructor
  · intro h
    exact ⟨fun x hx => hx.elim (fun g => (h x g).2) (fun g => by omega), fun x hx => hx.elim (fun g => (h x g).1) (fun g => by omega)⟩
  · rintro ⟨h1, h2⟩ x hx
    exact ⟨h2 x (.inl hx), h1 x (.inl hx)⟩
@[irreducible] def nearB (n : NodeV) : Bool := nearL n.data.xs && nearL n.bias.xs && nearL [n.lo, n.hi] && decide (n.lo ≤ n.hi)

theorem base_cases {w : World} {v : IntsV} (h : v.ok w) : (v.base = none ∧ v.xs = []) ∨ ∃ a, v.base = some a := by
  cases hb : v.base with
  | none =>
    left
    refine ⟨rfl, ?_⟩
    rcases h.rows with h | ⟨a, ha, _⟩
    · simpa [ints] using h
    · rw [hb] at ha; cases ha
  | some a => exact .inr ⟨a, rfl⟩
theorem i64_app {xs : List Int} (h : ∀ x ∈ xs, -9223372036854775808 ≤ x ∧ x ≤ 9223372036854775807) : ∀ x ∈ xs ++ [0], i64 x := by
  intro x hx
  rcases List.mem_append.1 hx with hx | hx
  · exact h x hx
  · simp at hx; subst hx; exact ⟨by decide, by decide⟩
set_option maxRecDepth 20000 in
set_option maxHeartbeats 8000000 in
theorem near_any (w : World) (n : NodeV) (hn : n.ok w) (hd : n.data.xs.length ≤ 5000) (hbi : n.bias.xs.length ≤ 5000) (at_ : Int) (sv : Value) :
    Calls Tryz.prog 60 #[nodeVal n at_ sv] w fun e w' => e = .returned (.bool (nearB n)) ∧ Ext w w' := by
  have hD := nearL_fold n.data.xs
  have hBi := nearL_fold n.bias.xs
  have hL := nearL_fold [n.lo, n.hi]
  have fD := i64_app hn.data.fits
  have fB := i64_app hn.bias.fits
  have fL : ∀ x ∈ [n.lo, n.hi] ++ [0], i64 x := i64_app (by intro x hx; simp at hx; rcases hx with rfl | rfl; exact hn.loFits; exact hn.hiFits)
  have hfD := hn.data.room
  have hfB := hn.bias.room
  have hDn : n.data.xs = [] → foldI max (n.data.xs ++ [0]) = 0 ∧ foldI min (n.data.xs ++ [0]) = 0 := fun h => by rw [h]; exact ⟨rfl, rfl⟩
  have hBn : n.bias.xs = [] → foldI max (n.bias.xs ++ [0]) = 0 ∧ foldI min (n.bias.xs ++ [0]) = 0 := fun h => by rw [h]; exact ⟨rfl, rfl⟩
  rcases base_cases hn.data with ⟨bD, xD⟩ | ⟨aD, bD⟩ <;> rcases base_cases hn.bias with ⟨bB, xB⟩ | ⟨aB, bB⟩
  all_goals
    try have qD := hDn xD
    try have qB := hBn xB
    refine calls_of tab tabOk Tryz.func60 rfl rfl rfl [] (fun _ => ⟨none, 0⟩) [.agg [.c (.int .i64 n.kind), .c (.int .i64 n.a), .c (.int .i64 n.b), .c n.shape.val, .c (.int .i64 n.lo), .c (.int .i64 n.hi), .c (.int .i64 n.size), .c n.data.val, .c n.bias.val, .c (.int .i64 at_), .c sv]] [] (baseA w) 0 rfl rfl (by show 1 ≤ _; decide) (abs_base w) ?_
    (repeat' ((conv => whnf) <;> first | (show Wp _ _ _ _ _ _ _; refine Wp.go tabOk rfl ?_) | (show @cmpK _ _ _; (first | refine cmpY ?_ | refine cmpN ?_ | (refine cmp_both ?_ ?_ <;> intro _))) | (show wrapK _ _ _; refine wrapA ?_) | (show leK _ _ _; refine leA ?_) | (show roomK _ _ _; refine roomA ?_) | (show ltK _ _ _; refine ltA ?_) | (show _ ∧ _; refine ⟨?_, ?_⟩) | (show keepK _ _ _ _ _; refine keepA ?_) | refine own_keep ?_ | refine ap_old ?_))
    refine Wp.freeze 1 (xs := ints [n.lo, n.hi]) (k := 1) (T := 3) (List.mem_cons_of_mem _ List.mem_cons_self) ?_
    intro l hl
    have hl2 : 2 ≤ l.cap := hl
    refine Wp.know (p := ∃ a, l.base = some a ∧ ∀ R w', ((baseA w).and (rowsA l.base 1 (ints [n.lo, n.hi]))).holds R w' → RowsI w' (some a) 1 (ints [n.lo, n.hi])) ?_ ?_
    · rintro ρ w' ⟨R, φ, hw⟩
      obtain ⟨b, off, hb, _⟩ := hw.asn.2.2.resolve_left (by simp [ints])
      exact ⟨_, hb, fun R' w'' h => by rw [← hb]; exact rowsA_in h.2⟩
    rintro ⟨aL, bL, hRL⟩
    refine Wp.rounds 4 ?_
    (repeat' ((conv => whnf) <;> first | (show sliceK _ _ _ _ _ _ _ _; (first | refine slice_nil bD (by simp [xD]) ?_ | refine slice_nil bB (by simp [xB]) ?_ | refine slice_some bD (by omega) ?_ | refine slice_some bB (by omega) ?_ | refine slice_some bL (by omega) ?_)) | (show roomK _ _ _; (refine room_of (by first | omega | decide | (show (n.data.xs.length + 1) * 8 ≤ 140737488355328; omega) | (show (n.bias.xs.length + 1) * 8 ≤ 140737488355328; omega)) ?_)) | (show roRowsK _ _ _ _ _; (first | refine roRows_in (ints_length _) (fun R w' h => hn.data.at_ bD R w' h.1) ints_row ?_ | refine roRows_in (ints_length _) (fun R w' h => hn.bias.at_ bB R w' h.1) ints_row ?_ | refine roRows_in (by simp [ints]) hRL ints_row ?_)) | (show callK _ 53 _ _ _ _ _; (refine call_pure (f := 53) Tryz.call53 (.int .i64 (foldI max (n.data.xs ++ [0]))) (fun ρ w' hw => max_own hw List.mem_cons_self (xs := n.data.xs ++ [0]) (by first | (simp only [ints, List.map_append]; rfl) | (simp only [ints, List.map_append, xD]; rfl)) (by first | (rw [List.length_append]; rfl) | (rw [List.length_append, xD]; rfl) | (rw [List.length_append, xB]; rfl)) fD (by simp; omega) (by simp)) ?_)) | (show callK _ 53 _ _ _ _ _; (refine call_pure (f := 53) Tryz.call53 (.int .i64 (foldI max (n.bias.xs ++ [0]))) (fun ρ w' hw => max_own hw List.mem_cons_self (xs := n.bias.xs ++ [0]) (by first | (simp only [ints, List.map_append]; rfl) | (simp only [ints, List.map_append, xB]; rfl)) (by first | (rw [List.length_append]; rfl) | (rw [List.length_append, xD]; rfl) | (rw [List.length_append, xB]; rfl)) fB (by simp; omega) (by simp)) ?_)) | (show callK _ 53 _ _ _ _ _; refine call_pure (f := 53) Tryz.call53 (.int .i64 (foldI max ([n.lo, n.hi] ++ [0]))) (fun ρ w' hw => max_own hw List.mem_cons_self (xs := [n.lo, n.hi] ++ [0]) rfl rfl fL (by simp) (by simp)) ?_) | (show callK _ 52 _ _ _ _ _; (refine call_pure (f := 52) Tryz.call52 (.int .i64 (foldI min (n.data.xs ++ [0]))) (fun ρ w' hw => min_own hw List.mem_cons_self (xs := n.data.xs ++ [0]) (by first | (simp only [ints, List.map_append]; rfl) | (simp only [ints, List.map_append, xD]; rfl)) (by first | (rw [List.length_append]; rfl) | (rw [List.length_append, xD]; rfl) | (rw [List.length_append, xB]; rfl)) fD (by simp; omega) (by simp)) ?_)) | (show callK _ 52 _ _ _ _ _; (refine call_pure (f := 52) Tryz.call52 (.int .i64 (foldI min (n.bias.xs ++ [0]))) (fun ρ w' hw => min_own hw List.mem_cons_self (xs := n.bias.xs ++ [0]) (by first | (simp only [ints, List.map_append]; rfl) | (simp only [ints, List.map_append, xB]; rfl)) (by first | (rw [List.length_append]; rfl) | (rw [List.length_append, xD]; rfl) | (rw [List.length_append, xB]; rfl)) fB (by simp; omega) (by simp)) ?_)) | (show callK _ 52 _ _ _ _ _; refine call_pure (f := 52) Tryz.call52 (.int .i64 (foldI min ([n.lo, n.hi] ++ [0]))) (fun ρ w' hw => min_own hw List.mem_cons_self (xs := [n.lo, n.hi] ++ [0]) rfl rfl fL (by simp) (by simp)) ?_) | (show Wp _ _ _ _ _ _ _; refine Wp.go tabOk rfl ?_) | (show @cmpK _ _ _; (first | refine cmpY ?_ | refine cmpN ?_ | (refine cmp_both ?_ ?_ <;> intro _))) | (show wrapK _ _ _; refine wrapA ?_) | (show leK _ _ _; refine leA ?_) | (show roomK _ _ _; refine roomA ?_) | (show ltK _ _ _; refine ltA ?_) | (show _ ∧ _; refine ⟨?_, ?_⟩) | (show keepK _ _ _ _ _; refine keepA ?_) | refine own_keep ?_ | refine ap_old ?_))
    all_goals (conv => whnf)
    all_goals (refine ends_bool (B := ⟨w, []⟩) (w := w) (S := (baseA w).and (rowsA l.base 1 (ints [n.lo, n.hi]))) (fun _ _ h => h.1) rfl ?_; unfold nearB; (first | rw [show nearL n.data.xs = true from by rw [xD]; rfl] | rw [hD]); (first | rw [show nearL n.bias.xs = true from by rw [xB]; rfl] | rw [hBi]); rw [hL])
    all_goals first | (simp only [Bool.and_eq_false_iff, decide_eq_false_iff_not]; omega) | ((repeat rw [decide_eq_true (by omega)]); rfl)
end Go.Proofs.YtgndjjdeopfdkaaGreat

/- GK -/
namespace Go.Proofs.YtgndjjdeopfdkaaGreat
open Go.SX Go.RowKit
/-- a graph -/
structure GraphV where
  base : Option Addr
  cap : Nat
  l : List NodeV
  out : Int
def nodeRows (l : List NodeV) : List (List Value) := l.map NodeV.cells
theorem nodeRows_length (l : List NodeV) : (nodeRows l).length = l.length := by simp [nodeRows]
theorem nodeRows_get {l : List NodeV} {k : Nat} (h : k < l.length) : (nodeRows l)[k]? = some l[k].cells := by simp [nodeRows, h]
def GraphV.val (g : GraphV) : Value := .agg #[.slice g.base g.l.length g.cap, .int .i64 g.out]
structure NodeV.small (n : NodeV) : Prop where
  data : n.data.xs.length ≤ 5000
  bias : n.bias.xs.length ≤ 5000
structure GraphV.ok (w : World) (g : GraphV) : Prop where
  rows : RowsI w g.base 9 (nodeRows g.l)
  each : ∀ n ∈ g.l, n.ok w
  small : ∀ n ∈ g.l, n.small
  few : g.l.length ≤ 1000000
  outFits : i64 g.out
theorem GraphV.ok.later {w w' : World} {R : Nat → Prop} {g : GraphV} (h : g.ok w) (hb : (baseA w).holds R w') : g.ok w' := ⟨rows_base hb h.rows, fun n hn => (h.each n hn).later hb, h.small, h.few, h.outFits⟩

def checkR : List NodeV → List (List Int) → Int × List (List Int)
  | [], sh => (0, sh)
  | n :: r, sh => if formB n sh.length = false then (3, []) else
    match shapeO n sh with
    | none => (4, [])
    | some s => if nearB n = false then (5, []) else checkR r (sh ++ [s])
def check (g : GraphV) : Int × List (List Int) := if g.l.length < 1 ∨ 24 < g.l.length ∨ g.out < 0 ∨ (g.l.length : Int) ≤ g.out then (3, []) else checkR g.l []

theorem checkR_form {n : NodeV} {r : List NodeV} {sh : List (List Int)} (h : formB n sh.length = false) : checkR (n :: r) sh = (3, []) := by simp only [checkR]; rw [if_pos h]
theorem checkR_shape {n : NodeV} {r : List NodeV} {sh : List (List Int)} (h : formB n sh.length = true) (hs : shapeO n sh = none) : checkR (n :: r) sh = (4, []) := by simp only [checkR]; rw [if_neg (by simp [h]), hs]
theorem checkR_near {n : NodeV} {r : List NodeV} {sh : List (List Int)} {s : List Int} (h : formB n sh.length = true) (hs : shapeO n sh = some s) (hn : nearB n = false) : checkR (n :: r) sh = (5, []) := by simp only [checkR]; rw [if_neg (by simp [h]), hs]; simp only; rw [if_pos hn]
theorem checkR_next {n : NodeV} {r : List NodeV} {sh : List (List Int)} {s : List Int} (h : formB n sh.length = true) (hs : shapeO n sh = some s) (hn : nearB n = true) : checkR (n :: r) sh = checkR r (sh ++ [s]) := by simp only [checkR]; rw [if_neg (by simp [h]), hs]; simp only; rw [if_neg (by simp [hn])]

/-- shapes as data -/
def shapesD (sv : ShapesV) : Asn where
  holds R w := (rowsA sv.base 1 (shRows sv.l)).holds R w ∧ ∀ u ∈ sv.l, (intsA u).holds R w
  stable := fun hR hw h => ⟨(rowsA _ _ _).stable hR hw h.1, fun u hu => (intsA u).stable hR hw (h.2 u hu)⟩
/-- numbers of several -/
def eachA (N : Nat) (l : List IntsV) : Asn where
  holds R w := ∀ u ∈ l, (newA N u).holds R w
  stable := fun hR hw h u hu => (newA N u).stable hR hw (h u hu)
theorem eachA_nil (N : Nat) (R : Nat → Prop) (w : World) : (eachA N []).holds R w := fun u hu => by simp at hu
theorem eachA_snoc {N : Nat} {l : List IntsV} {u : IntsV} {R : Nat → Prop} {w : World} (h : (eachA N l).holds R w) (hu : (newA N u).holds R w) : (eachA N (l ++ [u])).holds R w := by
  intro v hv
  rcases List.mem_append.1 hv with hv | hv
  · exact h v hv
  · simp at hv; subst hv; exact hu
def CheckPost (w : World) (r : Int × List (List Int)) (e : Ending) (w' : World) : Prop :=
  ∃ (v : Value), e = .returned (.tuple #[v, .int .i64 r.1]) ∧ Ext w w' ∧ (r.1 ≠ 0 → v = .slice none 0 0) ∧
    (r.1 = 0 → ∃ sv : ShapesV, v = sv.val ∧ sv.l.map (·.xs) = r.2 ∧ (∀ u ∈ sv.l, u.sane) ∧ (shapesD sv).holds (fun b => w.heap.size ≤ b ∧ b < w'.heap.size) w' ∧ sv.l.length ≤ sv.cap)
theorem ends_bad {B : Base} {H : Heap} {S : Asn} {nx : Nat} {w : World} {r : Int × List (List Int)} {k : Int} (hb : ∀ R w', S.holds R w' → (baseA B.w0).holds R w') (hw0 : B.w0 = w) (hr : r = (k, [])) (hk : k ≠ 0) : finK B (.tup [.c (.slice none 0 0), .c (.int .i64 k)]) H S nx (CheckPost w r) := by
  subst hw0 hr
  exact fin_of fun ρ w' hw => ⟨_, rfl, ext_of_abs hw hb, fun _ => rfl, fun h => absurd h hk⟩
theorem ends_good {B : Base} {H : Heap} {S : Asn} {nx i m : Nat} {w : World} {r : Int × List (List Int)} {us : List IntsV} {T : TypeId} (hb : ∀ R w', S.holds R w' → (baseA B.w0).holds R w') (hs : ∀ R w', S.holds R w' → (eachA B.w0.heap.size us).holds R w') (hsane : ∀ u ∈ us, u.sane) (hw0 : B.w0 = w) (he : (i, Ent.rows (shRows us) 1 T) ∈ H) (hm : m = us.length) (hr : r = (0, us.map (·.xs))) :
    finK B (.tup [.os i m, .c (.int .i64 0)]) H S nx (CheckPost w r) := by
  subst hw0 hr hm
  refine fin_of fun ρ w' hw => ⟨_, rfl, ext_of_abs hw hb, fun h => absurd rfl h, fun _ => ?_⟩
  have hn := new_of_abs hw hb he
  obtain ⟨base, cap, e1, h1⟩ := newRows_data hn
  obtain ⟨l', e2, F, _, _, hcap, _⟩ := hn
  have e3 : cap = l'.cap := by
    have := e1.symm.trans e2
    simp only [Value.slice.injEq] at this
    exact this.2.2
  refine ⟨⟨base, cap, us⟩, ?_, rfl, hsane, ⟨h1, fun u hu => past_new hw fun R w'' h => hs R w'' h u hu⟩, ?_⟩
  · rw [shRows_length] at e1
    exact e1
  · rw [shRows_length] at hcap
    show us.length ≤ cap
    omega

theorem call_clone {cx : Cx} {f : FuncId} {args : List SV} {H : Heap} {S : Asn} {nx : Nat} {K : SV → Heap → Asn → Nat → Prop} (xs : List Int) (hf : ∀ ar w, (callFunc f ar).run cx.P w = .ok (.enter f ar) w) (hfit : ∀ x ∈ xs, -9223372036854775808 ≤ x ∧ x ≤ 9223372036854775807) (hl : xs.length ≤ 1000000)
    (hc : ∀ ρ w', Abs cx.B ρ nx H S w' → Calls cx.P f (SV.rfs ρ args).toArray w' (fun e w'' => ∃ v, e = .returned v ∧ Ext w' w'' ∧ NewRows w' w'' v 1 3 (ints xs)))
    (h : ∀ u : IntsV, u.xs = xs → u.sane → K (.c u.val) H (S.and (newA cx.B.w0.heap.size u)) nx) : callK cx f args H S nx K := by
  refine call_past hf IntsV.val intsA (fun u => u.xs = xs ∧ u.sane) (fun ρ w' hw => (hc ρ w' hw).mono ?_) (fun u hu => h u hu.1 hu.2)
  rintro e w'' ⟨v, rfl, he, hn⟩
  obtain ⟨u, rfl, h1, h2, h3⟩ := newInts hn hfit hl
  exact ⟨u, ⟨h1, h2⟩, rfl, he, h3⟩
theorem shRows_snoc (l : List IntsV) (u : IntsV) : shRows (l ++ [u]) = shRows l ++ [[u.val]] := by simp [shRows]
theorem shapes_abs {B : Base} {ρ : Nat → SX.Loc} {nx : Nat} {H : Heap} {S : Asn} {w : World} {i N : Nat} {T : TypeId} {us : List IntsV} (hw : Abs B ρ nx H S w) (he : (i, Ent.rows (shRows us) 1 T) ∈ H) (hS : ∀ R w', S.holds R w' → (eachA N us).holds R w') (hus : ∀ u ∈ us, u.sane ∧ 0 < entries u.xs) (hl : us.length ≤ 24) :
    (⟨(ρ i).base, (ρ i).cap, us⟩ : ShapesV).ok w :=
  ⟨rows_of_abs hw he, fun u hu => holds_of_abs hw fun R h => intsA_ok (hus u hu).1 ((intsA u).mono (hS R w h u hu) (fun b hb => hb.1)), hl⟩
section
variable {w w' : World} {R : Nat → Prop} {n : NodeV} {us : List IntsV} {u : IntsV} {S : Asn} {N : Nat}
theorem u_sane1 (hn : n.ok w) (hus : ∀ u ∈ us, u.sane ∧ 0 < entries u.xs) (hu : u = n.shape ∨ u ∈ us) : u.sane := hu.elim (fun h => h ▸ hn.shape.sane) (fun h => (hus u h).1)
theorem u_ok1 (hn : n.ok w) (hus : ∀ u ∈ us, u.sane ∧ 0 < entries u.xs) (hu : u = n.shape ∨ u ∈ us) (h : ((baseA w).and (eachA N us)).holds R w') : u.ok w' :=
  hu.elim (fun e => e ▸ hn.shape.later h.1) (fun e => intsA_ok (hus u e).1 ((intsA u).mono (h.2 u e) (fun b hb => hb.1)))
theorem u_ok2 (hu : u.sane) (h : (S.and (newA N u)).holds R w') : u.ok w' := intsA_ok hu ((intsA u).mono h.2 (fun b hb => hb.1))
end
theorem each_snoc {us : List IntsV} {v : IntsV} (hus : ∀ u ∈ us, u.sane ∧ 0 < entries u.xs) (h1 : v.sane) (h2 : 0 < entries v.xs) : ∀ u ∈ us ++ [v], u.sane ∧ 0 < entries u.xs := by
  intro u hu
  rcases List.mem_append.1 hu with hu | hu
  · exact hus u hu
  · simp at hu; subst hu; exact ⟨h1, h2⟩
theorem rows_snoc (us : List IntsV) (v : IntsV) {i : Nat} {T : TypeId} {H : Heap} : (i, Ent.rows (shRows (us ++ [v])) 1 T) ∈ (i, Ent.rows (List.take us.length (shRows us) ++ [[v.val]]) 1 T) :: H := by
  rw [shRows_snoc, List.take_of_length_le (by rw [shRows_length]; exact Nat.le_refl _)]
  exact List.mem_cons_self
set_option maxRecDepth 20000 in
set_option maxHeartbeats 8000000 in
theorem check_any (w : World) (g : GraphV) (hg : g.ok w) : Calls Tryz.prog 24 #[g.val] w (CheckPost w (check g)) := by
  by_cases hc : g.l.length < 1 ∨ 24 < g.l.length ∨ g.out < 0 ∨ (g.l.length : Int) ≤ g.out
  · have hs : check g = (3, []) := by unfold check; rw [if_pos hc]
    rw [hs]
    refine calls_of tab tabOk Tryz.func24 rfl rfl rfl [] (fun _ => ⟨none, 0⟩) [.agg [.c (.slice g.base g.l.length g.cap), .c (.int .i64 g.out)]] [] (baseA w) 0 rfl rfl (by show 1 ≤ _; decide) (abs_base w) ?_
    (repeat' ((conv => whnf) <;> first | (show Wp _ _ _ _ _ _ _; refine Wp.go tabOk rfl ?_) | (show @cmpK _ _ _; (first | refine cmpY ?_ | refine cmpN ?_ | (refine cmp_both ?_ ?_ <;> intro _))) | (show wrapK _ _ _; refine wrapA ?_) | (show leK _ _ _; refine leA ?_) | (show roomK _ _ _; refine roomA ?_) | (show ltK _ _ _; refine ltA ?_) | (show _ ∧ _; refine ⟨?_, ?_⟩) | (show keepK _ _ _ _ _; refine keepA ?_) | refine own_keep ?_ | refine ap_old ?_))
    all_goals exact ends_bad (fun _ _ h => h) rfl rfl (by decide)
  · have hs : check g = checkR g.l [] := by unfold check; rw [if_neg hc]
    rw [hs]
    obtain ⟨a, ha⟩ : ∃ a, g.base = some a := base_some (j := 0) hg.rows (by rw [nodeRows_length]; omega)
    refine calls_of tab tabOk Tryz.func24 rfl rfl rfl [] (fun _ => ⟨none, 0⟩) [.agg [.c (.slice g.base g.l.length g.cap), .c (.int .i64 g.out)]] [] (baseA w) 0 rfl rfl (by show 1 ≤ _; decide) (abs_base w) ?_
    (repeat' ((conv => whnf) <;> first | (show Wp _ _ _ _ _ _ _; refine Wp.go tabOk rfl ?_) | (show @cmpK _ _ _; (first | refine cmpY ?_ | refine cmpN ?_ | (refine cmp_both ?_ ?_ <;> intro _))) | (show wrapK _ _ _; refine wrapA ?_) | (show leK _ _ _; refine leA ?_) | (show roomK _ _ _; refine roomA ?_) | (show ltK _ _ _; refine ltA ?_) | (show _ ∧ _; refine ⟨?_, ?_⟩) | (show keepK _ _ _ _ _; refine keepA ?_) | refine own_keep ?_ | refine ap_old ?_))
    refine Wp.loop (σ := Nat × List IntsV) 2 (fun ⟨k, us⟩ => [(34, .c (.slice g.base g.l.length g.cap)), (35, .c (.int .i64 g.l.length)), (36, .c (.int .i64 k)), (4, .os 1 k)]) (fun ⟨_, us⟩ => [(1, .rows (shRows us) 1 32)]) (fun ⟨_, us⟩ => (baseA w).and (eachA w.heap.size us))
      (fun ⟨k, us⟩ => k ≤ g.l.length ∧ us.length = k ∧ (∀ u ∈ us, u.sane ∧ 0 < entries u.xs) ∧ checkR g.l [] = checkR (g.l.drop k) (us.map (·.xs))) (fun s => g.l.length - s.1) (0, []) [(1, none)] (by decide) (fun s => ⟨rfl, rfl⟩) ⟨by simp, rfl, by simp, rfl⟩ ⟨rfl, ⟨rfl, rfl, rfl, rfl, trivial⟩, ⟨rfl, trivial⟩, fun R w' h => ⟨h, eachA_nil _ _ _⟩⟩ ?_
    rintro ⟨k, us⟩ ⟨hk, hul, hus, he⟩
    by_cases hlt : k < g.l.length
    · rw [drop_at hlt] at he
      have hn := hg.each _ (List.getElem_mem hlt)
      have hsm := hg.small _ (List.getElem_mem hlt)
      generalize hnk : g.l[k] = n at *
      have hrow : (nodeRows g.l)[k]? = some n.cells := by rw [nodeRows_get hlt, hnk]
      subst hul
      have hgs : ∀ s ∈ us.map (·.xs), 0 < entries s := fun s hs => by obtain ⟨u, hu, rfl⟩ := List.mem_map.1 hs; exact (hus u hu).2
      have hlm : (us.map (·.xs)).length = us.length := List.length_map _
      (repeat' ((conv => whnf) <;> first | (show idxK _ _ _ _ _; refine idx_of a us.length ha rfl hlt ?_) | (show roAggK _ _ _ _; (refine roAgg_row (fun R w' h => by rw [← ha]; exact rows_base h.1 hg.rows) _ hrow rfl ?_)) | (show callK _ 58 _ _ _ _ _; ((refine call_bool (f := 58) Tryz.call58 _ (fun ρ w' hw => form_any w' n (holds_of_abs hw fun R h => (by first | exact hn.later h.1 | exact hn.later h.1.1 | exact hn.later h.1.1.1)) us.length ((SV.os 1 us.length).rf ρ)) ?_ ?_ <;> intro hform))) | (show callK _ 59 _ _ _ _ _; (refine call_shape (f := 59) (n := n) (l := us) (shapeO n (us.map fun x : IntsV => x.xs)) Tryz.call59 rfl (fun ρ w' hw => shape_any w' n (holds_of_abs hw fun R h => (by first | exact hn.later h.1 | exact hn.later h.1.1 | exact hn.later h.1.1.1)) us.length ⟨(ρ 1).base, (ρ 1).cap, us⟩ (shapes_abs hw (List.mem_cons_of_mem _ (List.mem_cons_of_mem _ List.mem_cons_self)) (fun R w' h => h.2) hus (by omega)) (formed_of hform) (fun s hs => (hus s hs).2)) (fun hr v => ?_) (fun u hr hu => ?_) (fun u hr hu => ?_))) | (show callK _ 60 _ _ _ _ _; ((refine call_bool (f := 60) Tryz.call60 _ (fun ρ w' hw => near_any w' n (holds_of_abs hw fun R h => (by first | exact hn.later h.1 | exact hn.later h.1.1 | exact hn.later h.1.1.1)) hsm.data hsm.bias us.length ((SV.os 1 us.length).rf ρ)) ?_ ?_ <;> intro hnear))) | (show callK _ 32 _ _ _ _ _; (refine call_clone (f := 32) u.xs Tryz.call32 (by first | exact (u_sane1 hn hus hu).fits | exact hu.fits) (by first | exact (u_sane1 hn hus hu).few | exact hu.few) (fun ρ w' hw => clone_any w' u (holds_of_abs hw fun R h => by first | exact u_ok1 hn hus hu h | exact u_ok2 hu h) (entries_dims (shape_good (n := n) (sh := us.map fun x : IntsV => x.xs) (by rw [List.length_map]; exact formed_of hform) hgs hr rfl)).1) (fun v hv hvs => ?_))) | (show leK _ _ _; (refine le_of (by rw [shRows_length]; exact Nat.le_refl _) ?_)) | (show roomK _ _ _; (refine room_of (by show (us.length + 1) * 24 ≤ 140737488355328; omega) ?_)) | (show Wp _ _ _ _ _ _ _; refine Wp.go tabOk rfl ?_) | (show @cmpK _ _ _; (first | refine cmpY ?_ | refine cmpN ?_ | (refine cmp_both ?_ ?_ <;> intro _))) | (show wrapK _ _ _; refine wrapA ?_) | (show leK _ _ _; refine leA ?_) | (show roomK _ _ _; refine roomA ?_) | (show ltK _ _ _; refine ltA ?_) | (show _ ∧ _; refine ⟨?_, ?_⟩) | (show keepK _ _ _ _ _; refine keepA ?_) | refine own_keep ?_ | refine ap_old ?_))
      all_goals (conv => whnf)
      · exact ends_bad (B := ⟨w, []⟩) (fun _ _ h => h.1) rfl (he.trans (checkR_shape (by rw [hlm]; exact hform) hr)) (by decide)
      · exact ⟨(us.length + 1, us ++ [v]), [(1, some 5)], ⟨hlt, by simp, each_snoc hus hvs (hv ▸ shape_good (by rw [hlm]; exact formed_of hform) hgs hr rfl), he.trans ((checkR_next (by rw [hlm]; exact hform) hr hnear).trans (by rw [List.map_append, ← hv]; rfl))⟩, by simp only; omega, rfl, ⟨rfl, rfl, rfl, rfl, trivial⟩, ⟨rows_snoc us v, trivial⟩, fun R w' h => ⟨h.1.1, eachA_snoc h.1.2 h.2⟩⟩
      · exact ends_bad (B := ⟨w, []⟩) (fun _ _ h => h.1) rfl (he.trans (checkR_near (by rw [hlm]; exact hform) hr hnear)) (by decide)
      · exact ⟨(us.length + 1, us ++ [v]), [(1, some 5)], ⟨hlt, by simp, each_snoc hus hvs (hv ▸ shape_good (by rw [hlm]; exact formed_of hform) hgs hr rfl), he.trans ((checkR_next (by rw [hlm]; exact hform) hr hnear).trans (by rw [List.map_append, ← hv]; rfl))⟩, by simp only; omega, rfl, ⟨rfl, rfl, rfl, rfl, trivial⟩, ⟨rows_snoc us v, trivial⟩, fun R w' h => ⟨h.1.1.1, eachA_snoc h.1.1.2 h.2⟩⟩
      · exact ends_bad (B := ⟨w, []⟩) (fun _ _ h => h.1.1) rfl (he.trans (checkR_near (by rw [hlm]; exact hform) hr hnear)) (by decide)
      · exact ends_bad (B := ⟨w, []⟩) (fun _ _ h => h.1) rfl (he.trans (checkR_form (by rw [hlm]; exact hform))) (by decide)
    · rw [List.drop_of_length_le (by omega)] at he
      subst hul
      (repeat' ((conv => whnf) <;> first | (show Wp _ _ _ _ _ _ _; refine Wp.go tabOk rfl ?_) | (show @cmpK _ _ _; (first | refine cmpY ?_ | refine cmpN ?_ | (refine cmp_both ?_ ?_ <;> intro _))) | (show wrapK _ _ _; refine wrapA ?_) | (show leK _ _ _; refine leA ?_) | (show roomK _ _ _; refine roomA ?_) | (show ltK _ _ _; refine ltA ?_) | (show _ ∧ _; refine ⟨?_, ?_⟩) | (show keepK _ _ _ _ _; refine keepA ?_) | refine own_keep ?_ | refine ap_old ?_))
      conv => whnf
      exact ends_good (B := ⟨w, []⟩) (fun _ _ h => h.1) (fun _ _ h => h.2) (fun u hu => (hus u hu).1) rfl List.mem_cons_self rfl he
end Go.Proofs.YtgndjjdeopfdkaaGreat

/- GL -/
namespace Go.Proofs.YtgndjjdeopfdkaaGreat
open Go.SX Go.RowKit
structure BoolsV where
  base : Option Addr
  cap : Nat
  bs : List Bool
def BoolsV.val (v : BoolsV) : Value := .slice v.base v.bs.length v.cap
end Go.Proofs.YtgndjjdeopfdkaaGreat

/- GM -/
namespace Go.Proofs.YtgndjjdeopfdkaaGreat
open Go.SX Go.RowKit
end Go.Proofs.YtgndjjdeopfdkaaGreat

/- GN -/
namespace Go.Proofs.YtgndjjdeopfdkaaGreat
open Go.SX Go.RowKit
end Go.Proofs.YtgndjjdeopfdkaaGreat

/- GO -/
namespace Go.Proofs.YtgndjjdeopfdkaaGreat
open Go.SX Go.RowKit
section
variable {B : Base} {H : Heap} {S : Asn} {nx : Nat} {w : World} {n : NodeV} {l : List IntsV} {r : Option (List Int)}
end
end Go.Proofs.YtgndjjdeopfdkaaGreat

/- GP -/
namespace Go.Proofs.YtgndjjdeopfdkaaGreat
open Go.SX Go.RowKit
end Go.Proofs.YtgndjjdeopfdkaaGreat

/- GQ -/
namespace Go.Proofs.YtgndjjdeopfdkaaGreat
open Go.SX Go.RowKit
structure IntsV.raw (w : World) (v : IntsV) : Prop where
  rows : RowsI w v.base 1 (ints v.xs)
  fits : ∀ x ∈ v.xs, -9223372036854775808 ≤ x ∧ x ≤ 9223372036854775807
  room : v.xs.length ≤ v.cap
structure NodeV.raw (w : World) (n : NodeV) : Prop where
  shape : n.shape.raw w
  data : n.data.raw w
  bias : n.bias.raw w
  kindFits : i64 n.kind
  aFits : i64 n.a
  bFits : i64 n.b
  loFits : i64 n.lo
  hiFits : i64 n.hi
  sizeFits : i64 n.size
structure GraphV.raw (w : World) (g : GraphV) : Prop where
  rows : RowsI w g.base 9 (nodeRows g.l)
  each : ∀ n ∈ g.l, n.raw w
  outFits : i64 g.out
theorem IntsV.raw.later {w w' : World} {R : Nat → Prop} {v : IntsV} (h : v.raw w) (hb : (baseA w).holds R w') : v.raw w' := ⟨rows_base hb h.rows, h.fits, h.room⟩
theorem NodeV.raw.later {w w' : World} {R : Nat → Prop} {n : NodeV} (h : n.raw w) (hb : (baseA w).holds R w') : n.raw w' :=
  ⟨h.shape.later hb, h.data.later hb, h.bias.later hb, h.kindFits, h.aFits, h.bFits, h.loFits, h.hiFits, h.sizeFits⟩
theorem GraphV.raw.later {w w' : World} {R : Nat → Prop} {g : GraphV} (h : g.raw w) (hb : (baseA w).holds R w') : g.raw w' := ⟨rows_base hb h.rows, fun n hn => (h.each n hn).later hb, h.outFits⟩
theorem IntsV.raw.ok {w : World} {v : IntsV} (h : v.raw w) (hf : v.xs.length ≤ 1000000) : v.ok w := ⟨h.rows, h.fits, h.room, hf⟩
theorem call_check2 {cx : Cx} {f : FuncId} {args : List SV} {H : Heap} {S : Asn} {nx : Nat} {K : SV → Heap → Asn → Nat → Prop} (r : Int × List (List Int)) (hf : ∀ ar w, (callFunc f ar).run cx.P w = .ok (.enter f ar) w)
    (hc : ∀ ρ w', Abs cx.B ρ nx H S w' → Calls cx.P f (SV.rfs ρ args).toArray w' (CheckPost w' r))
    (h0 : r.1 ≠ 0 → K (.c (.tuple #[.slice none 0 0, .int .i64 r.1])) H S nx)
    (h1 : r.1 = 0 → ∀ sv : ShapesV, sv.l.map (·.xs) = r.2 → (∀ u ∈ sv.l, u.sane) → sv.l.length ≤ sv.cap → K (.c (.tuple #[sv.val, .int .i64 0])) H (S.and ((shapesD sv).past cx.B.w0.heap.size)) nx) : callK cx f args H S nx K := by
  rw [callK_def]
  refine ⟨hf, fun ρ w hw => (hc ρ w hw).mono ?_⟩
  rintro e w' ⟨v, rfl, he, hbad, hgood⟩
  by_cases hr : r.1 = 0
  · obtain ⟨sv, rfl, hm, hs, hd, hcap⟩ := hgood hr
    rw [hr]
    exact ⟨.c (.tuple #[sv.val, .int .i64 0]), ρ, H, _, nx, rfl, fun _ _ => rfl, Nat.le_refl _, SV.lt_c _, hw.grow he hd, h1 hr sv hm hs hcap⟩
  · rw [hbad hr]
    exact ⟨.c (.tuple #[.slice none 0 0, .int .i64 r.1]), ρ, H, S, nx, rfl, fun _ _ => rfl, Nat.le_refl _, SV.lt_c _, hw.ext he, h0 hr⟩
theorem call_check {cx : Cx} {f : FuncId} {args : List SV} {H : Heap} {S : Asn} {nx : Nat} {K : SV → Heap → Asn → Nat → Prop} (r : Int × List (List Int)) (hf : ∀ ar w, (callFunc f ar).run cx.P w = .ok (.enter f ar) w)
    (hc : ∀ ρ w', Abs cx.B ρ nx H S w' → Calls cx.P f (SV.rfs ρ args).toArray w' (CheckPost w' r))
    (h0 : r.1 ≠ 0 → K (.c (.tuple #[.slice none 0 0, .int .i64 r.1])) H S nx)
    (h1 : r.1 = 0 → ∀ sv : ShapesV, sv.l.map (·.xs) = r.2 → (∀ u ∈ sv.l, u.sane) → K (.c (.tuple #[sv.val, .int .i64 0])) H (S.and ((shapesD sv).past cx.B.w0.heap.size)) nx) : callK cx f args H S nx K :=
  call_check2 r hf hc h0 (fun e sv hm hs _ => h1 e sv hm hs)
end Go.Proofs.YtgndjjdeopfdkaaGreat

/- GU -/
namespace Go.Proofs.YtgndjjdeopfdkaaGreat
open Go.SX Go.RowKit
structure BytesV where
  base : Option Addr
  cap : Nat
  bs : List Nat
def BytesV.val (v : BytesV) : Value := .slice v.base v.bs.length v.cap
def bytesR (l : List Nat) : List (List Value) := l.map fun (x : Nat) => [Value.int .u8 (x : Int)]
def trueA : Asn := ⟨fun _ _ => True, fun _ _ h => h⟩
end Go.Proofs.YtgndjjdeopfdkaaGreat

/- GV -/
namespace Go.Proofs.YtgndjjdeopfdkaaGreat
open Go.SX Go.RowKit
theorem ints_snoc (xs : List Int) (x : Int) {i : Nat} {T : TypeId} {H : Heap} : (i, Ent.rows (ints (xs ++ [x])) 1 T) ∈ (i, Ent.rows (List.take xs.length (ints xs) ++ [[.int .i64 x]]) 1 T) :: H := by
  rw [show ints (xs ++ [x]) = List.take xs.length (ints xs) ++ [[.int .i64 x]] by rw [List.take_of_length_le (by rw [ints_length]; exact Nat.le_refl _)]; simp [ints]]
  exact List.mem_cons_self
end Go.Proofs.YtgndjjdeopfdkaaGreat

/- GW -/
namespace Go.Proofs.YtgndjjdeopfdkaaGreat
open Go.SX Go.RowKit
def NodeV.valA (n : NodeV) : Value := .agg n.cells.toArray
def nilI : IntsV := ⟨none, 0, []⟩
/-- what a made node is -/
structure Made (n : NodeV) : Prop where
  shape : n.shape.sane
  data : n.data.sane
  bias : n.bias.sane
  shapeFew : n.shape.xs.length ≤ 4
  dataFew : n.data.xs.length ≤ 1000
  biasFew : n.bias.xs.length ≤ 200
  kindFits : i64 n.kind
  aFits : i64 n.a
  bFits : i64 n.b
  loFits : i64 n.lo
  hiFits : i64 n.hi
  sizeFits : i64 n.size
/-- a shape that a made graph has -/
structure ShOk (s : List Int) : Prop where
  pos : 0 < entries s
  few : entries s ≤ 18
  three : s.length = 3 → s.getD 0 0 ≤ 2 ∧ s.getD 1 0 * s.getD 2 0 ≤ 9
theorem z0 : i64 0 := ⟨by decide, by decide⟩
theorem z1 : i64 1 := ⟨by decide, by decide⟩
end Go.Proofs.YtgndjjdeopfdkaaGreat

/- SL -/
namespace Go.Proofs.YtgndjjdeopfdkaaGreat
open Go.SX Go.RowKit
structure NodeP where
  kind : Int
  a : Int
  b : Int
  shape : List Int
  lo : Int
  hi : Int
  size : Int
  data : List Int
  bias : List Int
def NodeV.pl (n : NodeV) : NodeP := ⟨n.kind, n.a, n.b, n.shape.xs, n.lo, n.hi, n.size, n.data.xs, n.bias.xs⟩
def NodeP.toV (n : NodeP) : NodeV := ⟨n.kind, n.a, n.b, ⟨none, 0, n.shape⟩, n.lo, n.hi, n.size, ⟨none, 0, n.data⟩, ⟨none, 0, n.bias⟩⟩
theorem checkR_pl : ∀ {l m : List NodeV} (sh : List (List Int)), l.map NodeV.pl = m.map NodeV.pl → checkR l sh = checkR m sh
  | [], [], _, _ => rfl
  | [], _ :: _, _, h => by simp at h
  | _ :: _, [], _, h => by simp at h
  | x :: l, y :: m, sh, h => by
    simp only [List.map_cons, List.cons.injEq] at h
    have h1 : formB x sh.length = formB y sh.length := by
      have : ∀ z : NodeV, formB z sh.length = formB z.pl.toV sh.length := fun z => by unfold formB lacksB; rfl
      rw [this x, this y, h.1]
    have h2 : shapeO x sh = shapeO y sh := by
      have : ∀ z : NodeV, shapeO z sh = shapeO z.pl.toV sh := fun z => rfl
      rw [this x, this y, h.1]
    have h3 : nearB x = nearB y := by
      have : ∀ z : NodeV, nearB z = nearB z.pl.toV := fun z => by unfold nearB; rfl
      rw [this x, this y, h.1]
    simp only [checkR]
    rw [h1, h2, h3]
    split
    · rfl
    · cases shapeO y sh with
      | none => rfl
      | some s =>
        simp only
        split
        · rfl
        · exact checkR_pl _ h.2
theorem check_pl {g h : GraphV} (hl : g.l.map NodeV.pl = h.l.map NodeV.pl) (ho : g.out = h.out) : check g = check h := by
  unfold check
  have e : g.l.length = h.l.length := by simpa using congrArg List.length hl
  rw [e, ho, checkR_pl [] hl]
structure GraphV.fit (w : World) (g : GraphV) : Prop where
  rows : RowsI w g.base 9 (nodeRows g.l)
  each : ∀ n ∈ g.l, n.ok w
  few : g.l.length ≤ 1000000
theorem GraphV.fit.later {w w' : World} {R : Nat → Prop} {g : GraphV} (h : g.fit w) (hb : (baseA w).holds R w') : g.fit w' := ⟨rows_base hb h.rows, fun n hn => (h.each n hn).later hb, h.few⟩
end Go.Proofs.YtgndjjdeopfdkaaGreat

/- GR -/
namespace Go.Proofs.YtgndjjdeopfdkaaGreat
open Go.SX Go.RowKit
theorem i64_0 : i64 0 := ⟨by decide, by decide⟩
theorem i64_1 : i64 1 := ⟨by decide, by decide⟩
theorem nil_ok (w : World) : (⟨none, 0, []⟩ : IntsV).ok w := ⟨.inl rfl, by simp, Nat.le_refl _, by simp⟩
end Go.Proofs.YtgndjjdeopfdkaaGreat

/- GS -/
namespace Go.Proofs.YtgndjjdeopfdkaaGreat
open Go.SX Go.ChangeShapes Go.WideShapes Go.ChangeAt Go.RowKit
theorem own : ownKnob Tryz.prog.godebug = none := by kernel_rfl
end Go.Proofs.YtgndjjdeopfdkaaGreat

