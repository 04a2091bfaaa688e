import Derived.Test.YtajbngkcgbehlaaProg
import Derived.Test.YtajbngkcgbehlaaKScrollGraphs2
/- GA -/
namespace Go.Proofs.Ytajbngkcgbehlaa
open Go.SX
def tab : List (Nat × TI) :=
  [(1, ⟨1, false, 0, 0, 8, .i64, [], true, [.nilFunc]⟩),
   (3, ⟨1, false, 6, 0, 8, .i64, [], true, [.int .i64 0]⟩),
   (4, ⟨1, false, 5, 0, 1, .i64, [], true, [.bool false]⟩),
   (5, ⟨1, false, 6, 0, 1, .u8, [], true, [.int .u8 0]⟩),
   (9, ⟨1, false, 4, 0, 16, .i64, [], true, [.string .empty]⟩),
   (20, ⟨1, false, 9, 0, 16, .i64, [], true, [.nilIface]⟩),
   (21, ⟨1, false, 6, 0, 4, .i32, [], true, [.int .i32 0]⟩),
   (22, ⟨1, false, 1, 43, 24, .i64, [], true, [.slice none 0 0]⟩),
   (24, ⟨2, true, 3, 0, 32, .i64, [(0, 1, 0), (1, 1, 0)], true, [.slice none 0 0, .int .i64 0]⟩),
   (27, ⟨1, false, 1, 32, 24, .i64, [], true, [.slice none 0 0]⟩),
   (28, ⟨1, false, 6, 0, 8, .i64, [], true, [.int .i64 0]⟩),
   (32, ⟨1, false, 1, 3, 24, .i64, [], true, [.slice none 0 0]⟩),
   (35, ⟨1, false, 1, 5, 24, .i64, [], true, [.slice none 0 0]⟩),
   (37, ⟨1, false, 7, 39, 8, .i64, [], true, [.pointer none]⟩),
   (39, ⟨2, true, 3, 0, 32, .i64, [(0, 1, 0), (1, 1, 0)], true, [.slice none 0 0, .int .i64 0]⟩),
   (41, ⟨1, false, 7, 43, 8, .i64, [], true, [.pointer none]⟩),
   (43, ⟨9, true, 3, 0, 120, .i64, [(0, 1, 0), (1, 1, 0), (2, 1, 0), (3, 1, 0), (4, 1, 0), (5, 1, 0), (6, 1, 0), (7, 1, 0), (8, 1, 0)], true, [.int .i64 0, .int .i64 0, .int .i64 0, .slice none 0 0, .int .i64 0, .int .i64 0, .int .i64 0, .slice none 0 0, .slice none 0 0]⟩),
   (46, ⟨5, true, 3, 0, 24, .i64, [(0, 1, 0), (1, 1, 0), (2, 1, 0), (3, 1, 0), (4, 1, 0)], true, [.int .i64 0, .bool false, .bool false, .bool false, .int .i64 0]⟩),
   (57, ⟨1, false, 1, 67, 24, .i64, [], true, [.slice none 0 0]⟩),
   (67, ⟨2, true, 3, 0, 16, .i64, [(0, 1, 0), (1, 1, 0)], true, [.int .i64 0, .int .i64 0]⟩),
   (70, ⟨1, false, 6, 0, 1, .i8, [], true, [.int .i8 0]⟩),
   (71, ⟨1, false, 6, 0, 2, .i16, [], true, [.int .i16 0]⟩),
   (75, ⟨11, true, 3, 0, 152, .i64, [(0, 9, 1), (9, 1, 0), (10, 1, 0)], true, [.int .i64 0, .int .i64 0, .int .i64 0, .slice none 0 0, .int .i64 0, .int .i64 0, .int .i64 0, .slice none 0 0, .slice none 0 0, .int .i64 0, .slice none 0 0]⟩),
   (84, ⟨1, false, 7, 86, 8, .i64, [], true, [.pointer none]⟩),
   (86, ⟨1, true, 3, 0, 24, .i64, [(0, 1, 0)], true, [.slice none 0 0]⟩),
   (87, ⟨1, false, 1, 4, 24, .i64, [], true, [.slice none 0 0]⟩),
   (89, ⟨1, false, 0, 0, 8, .i64, [], true, [.nilFunc]⟩),
   (92, ⟨1, false, 6, 0, 8, .u64, [], true, [.int .u64 0]⟩),
   (93, ⟨1, false, 7, 125, 8, .i64, [], true, [.pointer none]⟩),
   (95, ⟨1, false, 0, 0, 8, .i64, [], true, [.nilFunc]⟩),
   (98, ⟨1, false, 7, 100, 8, .i64, [], true, [.pointer none]⟩),
   (100, ⟨2, true, 3, 0, 32, .i64, [(0, 1, 0), (1, 1, 0)], true, [.slice none 0 0, .int .i64 0]⟩),
   (102, ⟨1, true, 3, 0, 8, .i64, [(0, 1, 0)], true, [.pointer none]⟩),
   (109, ⟨1, false, 0, 0, 8, .i64, [], true, [.nilFunc]⟩),
   (110, ⟨1, false, 0, 0, 8, .i64, [], true, [.nilFunc]⟩),
   (112, ⟨12, true, 3, 0, 160, .i64, [(0, 9, 1), (9, 1, 0), (10, 1, 0), (11, 1, 0)], true, [.int .i64 0, .int .i64 0, .int .i64 0, .slice none 0 0, .int .i64 0, .int .i64 0, .int .i64 0, .slice none 0 0, .slice none 0 0, .slice none 0 0, .nilFunc, .int .i64 0]⟩),
   (119, ⟨1, false, 0, 0, 8, .i64, [], true, [.nilFunc]⟩),
   (123, ⟨1, false, 6, 0, 8, .u64, [], true, [.int .u64 0]⟩),
   (125, ⟨2, true, 3, 0, 32, .i64, [(0, 1, 0), (1, 1, 0)], true, [.slice none 0 0, .int .i64 0]⟩),
   (128, ⟨1, false, 6, 0, 4, .u32, [], true, [.int .u32 0]⟩),
   (130, ⟨1, false, 1, 132, 24, .i64, [], true, [.slice none 0 0]⟩),
   (132, ⟨2, true, 3, 0, 16, .i64, [(0, 1, 0), (1, 1, 0)], true, [.int .i64 0, .int .i64 0]⟩)]
theorem tabOk : ∀ p ∈ tab, mkTI Try.prog p.1 = some p.2 := by
  have h : tab.map (fun p => mkTI Try.prog p.1) = tab.map (fun p => some p.2) := by kernel_rfl
  intro p hp
  obtain ⟨i, hi⟩ := List.getElem?_of_mem hp
  have h1 := congrArg (fun l => l[i]?) h
  simp only [List.getElem?_map, hi, Option.map_some, Option.some.injEq] at h1
  exact h1

theorem ret_int {k : IntKind} {a b : Int} (h : a = b) : Ending.returned (.int k a) = .returned (.int k b) := by rw [h]
def entLoop : Int → List Int → Int
  | n, [] => n
  | n, d :: r => if d < 1 ∨ d > 64 / n then 0 else entLoop (n * d) r
@[irreducible] def entries (xs : List Int) : Int := if xs.length < 1 ∨ 3 < xs.length then 0 else entLoop 1 xs
theorem drop_at {α : Type} {xs : List α} {k : Nat} (h : k < xs.length) : xs.drop k = xs[k] :: xs.drop (k + 1) := List.drop_eq_getElem_cons h

set_option maxHeartbeats 1000000 in
theorem entries_any (w : World) (sb : Option Addr) (sc : Nat) (xs : List Int) (hx : RowsI w sb 1 (ints xs)) :
    Calls Try.prog 20 #[.slice sb xs.length sc] w fun e w' => e = .returned (.int .i64 (entries xs)) ∧ Ext w w' := by
  by_cases hl : xs.length < 1 ∨ 3 < xs.length
  · have hs : entries xs = 0 := by unfold entries; rw [if_pos hl]
    rw [hs]
    refine calls_of tab tabOk Try.func20 rfl rfl rfl [] (fun _ => ⟨none, 0⟩) [.c (.slice sb xs.length sc)] [] (baseA w) 0 rfl rfl (by show 1 ≤ _; decide) (abs_base w) ?_
    (repeat' ((conv => whnf) <;> first | (show Wp _ _ _ _ _ _ _; (refine Wp.go tabOk rfl ?_)) | (show @cmpK _ _ _; (first | refine cmp_yes (by omega) ?_ | refine cmp_no (by omega) ?_ | (refine cmp_both ?_ ?_ <;> intro _))) | (show wrapK _ _ _; (refine wrap_i64 (by omega) (by omega) ?_)) | (show leK _ _ _; (refine le_of (by first | exact Nat.le_refl _ | omega) ?_)) | (show roomK _ _ _; (refine room_of (by first | omega | (dsimp only; omega)) ?_)) | (show ltK _ _ _; (refine lt_of (by omega) ?_)) | (show _ ∧ _; (refine ⟨?_, ?_⟩)) | (show keepK _ _ _ _ _; (refine keep_of (by first | exact List.Sublist.refl _ | exact List.Sublist.cons _ (List.Sublist.refl _) | exact List.Sublist.cons _ (List.Sublist.cons _ (List.Sublist.refl _)) | exact List.Sublist.cons _ (List.Sublist.cons _ (List.Sublist.cons _ (List.Sublist.refl _)))) (by first | exact (fun _ _ h => h) | exact (fun _ _ h => h.1) | exact (fun _ _ h => h.1.1)) ?_)) | (show ownK _ _ _ _ _; (refine own_keep ?_))))
    all_goals exact fin_of fun ρ w' hw => ⟨rfl, ext_of_abs hw (fun _ _ h => h)⟩
  · have hs : entries xs = entLoop 1 xs := by unfold entries; rw [if_neg hl]
    rw [hs]
    refine calls_of tab tabOk Try.func20 rfl rfl rfl [] (fun _ => ⟨none, 0⟩) [.c (.slice sb xs.length sc)] [] (baseA w) 0 rfl rfl (by show 1 ≤ _; decide) (abs_base w) ?_
    (repeat' ((conv => whnf) <;> first | (show Wp _ _ _ _ _ _ _; (refine Wp.go tabOk rfl ?_)) | (show @cmpK _ _ _; (first | refine cmp_yes (by omega) ?_ | refine cmp_no (by omega) ?_ | (refine cmp_both ?_ ?_ <;> intro _))) | (show wrapK _ _ _; (refine wrap_i64 (by omega) (by omega) ?_)) | (show leK _ _ _; (refine le_of (by first | exact Nat.le_refl _ | omega) ?_)) | (show roomK _ _ _; (refine room_of (by first | omega | (dsimp only; omega)) ?_)) | (show ltK _ _ _; (refine lt_of (by omega) ?_)) | (show _ ∧ _; (refine ⟨?_, ?_⟩)) | (show keepK _ _ _ _ _; (refine keep_of (by first | exact List.Sublist.refl _ | exact List.Sublist.cons _ (List.Sublist.refl _) | exact List.Sublist.cons _ (List.Sublist.cons _ (List.Sublist.refl _)) | exact List.Sublist.cons _ (List.Sublist.cons _ (List.Sublist.cons _ (List.Sublist.refl _)))) (by first | exact (fun _ _ h => h) | exact (fun _ _ h => h.1) | exact (fun _ _ h => h.1.1)) ?_)) | (show ownK _ _ _ _ _; (refine own_keep ?_))))
    obtain ⟨a, rfl⟩ : ∃ a, sb = some a := base_some (j := 0) hx (by rw [ints_length]; omega)
    refine Wp.loop (σ := Nat × Int) 0 (fun ⟨k, n⟩ => [(14, .c (.slice (some a) xs.length sc)), (15, .c (.int .i64 xs.length)), (16, .c (.int .i64 k)), (3, .c (.int .i64 n))]) (fun _ => []) (fun _ => baseA w)
      (fun s => s.1 ≤ xs.length ∧ 1 ≤ s.2 ∧ s.2 ≤ 64 ∧ entLoop 1 xs = entLoop s.2 (xs.drop s.1)) (fun s => xs.length - s.1) (0, 1) [] (Nat.le_refl _) (fun s => ⟨rfl, rfl⟩) ⟨by simp, by simp, by simp, rfl⟩ ⟨rfl, ⟨rfl, rfl, rfl, rfl, trivial⟩, trivial, fun _ _ h => h⟩ ?_
    rintro ⟨k, n⟩ ⟨hk, h1, h64, he⟩
    simp only at hk h1 h64 he
    by_cases hlt : k < xs.length
    · rw [drop_at hlt] at he
      simp only [entLoop] at he
      have hdiv : 64 / n ≤ 64 := Int.ediv_le_self _ (by omega)
      have hmul : 1 ≤ xs[k] → xs[k] ≤ 64 / n → 1 ≤ n * xs[k] ∧ n * xs[k] ≤ 64 := fun g1 g2 => by
        have g3 : xs[k] * n ≤ 64 := Int.le_trans (Int.mul_le_mul_of_nonneg_right g2 (by omega)) (Int.ediv_mul_le _ (by omega))
        have g4 : n * 1 ≤ n * xs[k] := Int.mul_le_mul_of_nonneg_left g1 (by omega)
        rw [Int.mul_comm] at g3
        omega
      (repeat' ((conv => whnf) <;> first | refine idx_of a k rfl rfl hlt ?_ | refine ro_row0 (fun R w' h => rows_base h hx) _ _ (ints_get hlt) rfl ?_ | refine div_pos rfl (by omega) (by omega) (by omega) ?_ | refine wrap_i64 (by have := hmul (by omega) (by omega); omega) (by have := hmul (by omega) (by omega); omega) ?_ | (show Wp _ _ _ _ _ _ _; (refine Wp.go tabOk rfl ?_)) | (show @cmpK _ _ _; (first | refine cmp_yes (by omega) ?_ | refine cmp_no (by omega) ?_ | (refine cmp_both ?_ ?_ <;> intro _))) | (show wrapK _ _ _; (refine wrap_i64 (by omega) (by omega) ?_)) | (show leK _ _ _; (refine le_of (by first | exact Nat.le_refl _ | omega) ?_)) | (show roomK _ _ _; (refine room_of (by first | omega | (dsimp only; omega)) ?_)) | (show ltK _ _ _; (refine lt_of (by omega) ?_)) | (show _ ∧ _; (refine ⟨?_, ?_⟩)) | (show keepK _ _ _ _ _; (refine keep_of (by first | exact List.Sublist.refl _ | exact List.Sublist.cons _ (List.Sublist.refl _) | exact List.Sublist.cons _ (List.Sublist.cons _ (List.Sublist.refl _)) | exact List.Sublist.cons _ (List.Sublist.cons _ (List.Sublist.cons _ (List.Sublist.refl _)))) (by first | exact (fun _ _ h => h) | exact (fun _ _ h => h.1) | exact (fun _ _ h => h.1.1)) ?_)) | (show ownK _ _ _ _ _; (refine own_keep ?_))))
      · rw [if_pos (.inl (by omega))] at he
        rw [he]
        exact fin_of fun ρ w' hw => ⟨rfl, ext_of_abs hw (fun _ _ h => h)⟩
      · rw [if_pos (.inr (by omega))] at he
        rw [he]
        exact fin_of fun ρ w' hw => ⟨rfl, ext_of_abs hw (fun _ _ h => h)⟩
      · rw [if_neg (by omega)] at he
        have := hmul (by omega) (by omega)
        exact ⟨(k + 1, n * xs[k]), [], ⟨hlt, this.1, this.2, he⟩, by simp only; omega, rfl, ⟨rfl, rfl, rfl, rfl, trivial⟩, trivial, fun _ _ h => h⟩
    · have hkl : xs.drop k = [] := by simp; omega
      rw [hkl] at he
      rw [he]
      (repeat' ((conv => whnf) <;> first | (show Wp _ _ _ _ _ _ _; (refine Wp.go tabOk rfl ?_)) | (show @cmpK _ _ _; (first | refine cmp_yes (by omega) ?_ | refine cmp_no (by omega) ?_ | (refine cmp_both ?_ ?_ <;> intro _))) | (show wrapK _ _ _; (refine wrap_i64 (by omega) (by omega) ?_)) | (show leK _ _ _; (refine le_of (by first | exact Nat.le_refl _ | omega) ?_)) | (show roomK _ _ _; (refine room_of (by first | omega | (dsimp only; omega)) ?_)) | (show ltK _ _ _; (refine lt_of (by omega) ?_)) | (show _ ∧ _; (refine ⟨?_, ?_⟩)) | (show keepK _ _ _ _ _; (refine keep_of (by first | exact List.Sublist.refl _ | exact List.Sublist.cons _ (List.Sublist.refl _) | exact List.Sublist.cons _ (List.Sublist.cons _ (List.Sublist.refl _)) | exact List.Sublist.cons _ (List.Sublist.cons _ (List.Sublist.cons _ (List.Sublist.refl _)))) (by first | exact (fun _ _ h => h) | exact (fun _ _ h => h.1) | exact (fun _ _ h => h.1.1)) ?_)) | (show ownK _ _ _ _ _; (refine own_keep ?_))))
      exact fin_of fun ρ w' hw => ⟨rfl, ext_of_abs hw (fun _ _ h => h)⟩

/-- the document's own reckoning: the same -/
theorem entRef {n d : Int} (h1 : 1 ≤ n) (hd : 1 ≤ d) : (d > 64 / n) ↔ (n * d > 64) := by
  constructor
  · intro h
    have : 64 < n * d := by
      have h2 := Int.lt_mul_of_ediv_lt (by omega : (0:Int) < n) h
      rwa [Int.mul_comm] at h2
    omega
  · intro h
    have h2 : 64 < d * n := by rw [Int.mul_comm]; omega
    exact Int.ediv_lt_of_lt_mul (by omega) h2

set_option maxHeartbeats 1000000 in
theorem refEntries_any (w : World) (sb : Option Addr) (sc : Nat) (xs : List Int) (hx : RowsI w sb 1 (ints xs)) :
    Calls Try.prog 21 #[.slice sb xs.length sc] w fun e w' => e = .returned (.int .i64 (entries xs)) ∧ Ext w w' := by
  by_cases hl : xs.length < 1 ∨ 3 < xs.length
  · have hs : entries xs = 0 := by unfold entries; rw [if_pos hl]
    rw [hs]
    refine calls_of tab tabOk Try.func21 rfl rfl rfl [] (fun _ => ⟨none, 0⟩) [.c (.slice sb xs.length sc)] [] (baseA w) 0 rfl rfl (by show 1 ≤ _; decide) (abs_base w) ?_
    (repeat' ((conv => whnf) <;> first | (show Wp _ _ _ _ _ _ _; (refine Wp.go tabOk rfl ?_)) | (show @cmpK _ _ _; (first | refine cmp_yes (by omega) ?_ | refine cmp_no (by omega) ?_ | (refine cmp_both ?_ ?_ <;> intro _))) | (show wrapK _ _ _; (refine wrap_i64 (by omega) (by omega) ?_)) | (show leK _ _ _; (refine le_of (by first | exact Nat.le_refl _ | omega) ?_)) | (show roomK _ _ _; (refine room_of (by first | omega | (dsimp only; omega)) ?_)) | (show ltK _ _ _; (refine lt_of (by omega) ?_)) | (show _ ∧ _; (refine ⟨?_, ?_⟩)) | (show keepK _ _ _ _ _; (refine keep_of (by first | exact List.Sublist.refl _ | exact List.Sublist.cons _ (List.Sublist.refl _) | exact List.Sublist.cons _ (List.Sublist.cons _ (List.Sublist.refl _)) | exact List.Sublist.cons _ (List.Sublist.cons _ (List.Sublist.cons _ (List.Sublist.refl _)))) (by first | exact (fun _ _ h => h) | exact (fun _ _ h => h.1) | exact (fun _ _ h => h.1.1)) ?_)) | (show ownK _ _ _ _ _; (refine own_keep ?_))))
    all_goals exact fin_of fun ρ w' hw => ⟨rfl, ext_of_abs hw (fun _ _ h => h)⟩
  · have hs : entries xs = entLoop 1 xs := by unfold entries; rw [if_neg hl]
    rw [hs]
    refine calls_of tab tabOk Try.func21 rfl rfl rfl [] (fun _ => ⟨none, 0⟩) [.c (.slice sb xs.length sc)] [] (baseA w) 0 rfl rfl (by show 1 ≤ _; decide) (abs_base w) ?_
    (repeat' ((conv => whnf) <;> first | (show Wp _ _ _ _ _ _ _; (refine Wp.go tabOk rfl ?_)) | (show @cmpK _ _ _; (first | refine cmp_yes (by omega) ?_ | refine cmp_no (by omega) ?_ | (refine cmp_both ?_ ?_ <;> intro _))) | (show wrapK _ _ _; (refine wrap_i64 (by omega) (by omega) ?_)) | (show leK _ _ _; (refine le_of (by first | exact Nat.le_refl _ | omega) ?_)) | (show roomK _ _ _; (refine room_of (by first | omega | (dsimp only; omega)) ?_)) | (show ltK _ _ _; (refine lt_of (by omega) ?_)) | (show _ ∧ _; (refine ⟨?_, ?_⟩)) | (show keepK _ _ _ _ _; (refine keep_of (by first | exact List.Sublist.refl _ | exact List.Sublist.cons _ (List.Sublist.refl _) | exact List.Sublist.cons _ (List.Sublist.cons _ (List.Sublist.refl _)) | exact List.Sublist.cons _ (List.Sublist.cons _ (List.Sublist.cons _ (List.Sublist.refl _)))) (by first | exact (fun _ _ h => h) | exact (fun _ _ h => h.1) | exact (fun _ _ h => h.1.1)) ?_)) | (show ownK _ _ _ _ _; (refine own_keep ?_))))
    obtain ⟨a, rfl⟩ : ∃ a, sb = some a := base_some (j := 0) hx (by rw [ints_length]; omega)
    refine Wp.loop (σ := Nat × Int) 0 (fun ⟨k, n⟩ => [(14, .c (.slice (some a) xs.length sc)), (15, .c (.int .i64 xs.length)), (16, .c (.int .i64 k)), (3, .c (.int .i64 n))]) (fun _ => []) (fun _ => baseA w)
      (fun s => s.1 ≤ xs.length ∧ 1 ≤ s.2 ∧ s.2 ≤ 64 ∧ entLoop 1 xs = entLoop s.2 (xs.drop s.1)) (fun s => xs.length - s.1) (0, 1) [] (Nat.le_refl _) (fun s => ⟨rfl, rfl⟩) ⟨by simp, by simp, by simp, rfl⟩ ⟨rfl, ⟨rfl, rfl, rfl, rfl, trivial⟩, trivial, fun _ _ h => h⟩ ?_
    rintro ⟨k, n⟩ ⟨hk, h1, h64, he⟩
    simp only at hk h1 h64 he
    by_cases hlt : k < xs.length
    · rw [drop_at hlt] at he
      simp only [entLoop] at he
      have hb : 1 ≤ xs[k] → xs[k] ≤ 64 → 1 ≤ n * xs[k] ∧ n * xs[k] ≤ 4096 := fun g1 g2 => by
        have g3 : n * xs[k] ≤ 64 * 64 := Int.mul_le_mul h64 g2 (by omega) (by omega)
        have g4 : n * 1 ≤ n * xs[k] := Int.mul_le_mul_of_nonneg_left g1 (by omega)
        omega
      have hq : xs[k] > 64 → 1 ≤ xs[k] → n * xs[k] > 64 := fun g1 g2 => by
        have g4 : 1 * xs[k] ≤ n * xs[k] := Int.mul_le_mul_of_nonneg_right h1 (by omega)
        omega
      (repeat' ((conv => whnf) <;> first | refine idx_of a k rfl rfl hlt ?_ | refine ro_row0 (fun R w' h => rows_base h hx) _ _ (ints_get hlt) rfl ?_ | refine wrap_i64 (by have := hb (by omega) (by omega); omega) (by have := hb (by omega) (by omega); omega) ?_ | (show Wp _ _ _ _ _ _ _; (refine Wp.go tabOk rfl ?_)) | (show @cmpK _ _ _; (first | refine cmp_yes (by omega) ?_ | refine cmp_no (by omega) ?_ | (refine cmp_both ?_ ?_ <;> intro _))) | (show wrapK _ _ _; (refine wrap_i64 (by omega) (by omega) ?_)) | (show leK _ _ _; (refine le_of (by first | exact Nat.le_refl _ | omega) ?_)) | (show roomK _ _ _; (refine room_of (by first | omega | (dsimp only; omega)) ?_)) | (show ltK _ _ _; (refine lt_of (by omega) ?_)) | (show _ ∧ _; (refine ⟨?_, ?_⟩)) | (show keepK _ _ _ _ _; (refine keep_of (by first | exact List.Sublist.refl _ | exact List.Sublist.cons _ (List.Sublist.refl _) | exact List.Sublist.cons _ (List.Sublist.cons _ (List.Sublist.refl _)) | exact List.Sublist.cons _ (List.Sublist.cons _ (List.Sublist.cons _ (List.Sublist.refl _)))) (by first | exact (fun _ _ h => h) | exact (fun _ _ h => h.1) | exact (fun _ _ h => h.1.1)) ?_)) | (show ownK _ _ _ _ _; (refine own_keep ?_))))
      · rw [if_pos (.inl (by omega))] at he
        rw [he]
        exact fin_of fun ρ w' hw => ⟨rfl, ext_of_abs hw (fun _ _ h => h)⟩
      · rw [if_pos (.inr ((entRef h1 (by omega)).2 (hq (by omega) (by omega))))] at he
        rw [he]
        exact fin_of fun ρ w' hw => ⟨rfl, ext_of_abs hw (fun _ _ h => h)⟩
      · rw [if_pos (.inr ((entRef h1 (by omega)).2 (by omega)))] at he
        rw [he]
        exact fin_of fun ρ w' hw => ⟨rfl, ext_of_abs hw (fun _ _ h => h)⟩
      · rename_i h5 h6
        have hn : ¬ (xs[k] < 1 ∨ xs[k] > 64 / n) := by
          rintro (h | h)
          · omega
          · have := (entRef h1 (by omega)).1 h; omega
        rw [if_neg hn] at he
        have := hb (by omega) (by omega)
        exact ⟨(k + 1, n * xs[k]), [], ⟨hlt, this.1, by simp only; omega, he⟩, by simp only; omega, rfl, ⟨rfl, rfl, rfl, rfl, trivial⟩, trivial, fun _ _ h => h⟩
    · have hkl : xs.drop k = [] := by simp; omega
      rw [hkl] at he
      rw [he]
      (repeat' ((conv => whnf) <;> first | (show Wp _ _ _ _ _ _ _; (refine Wp.go tabOk rfl ?_)) | (show @cmpK _ _ _; (first | refine cmp_yes (by omega) ?_ | refine cmp_no (by omega) ?_ | (refine cmp_both ?_ ?_ <;> intro _))) | (show wrapK _ _ _; (refine wrap_i64 (by omega) (by omega) ?_)) | (show leK _ _ _; (refine le_of (by first | exact Nat.le_refl _ | omega) ?_)) | (show roomK _ _ _; (refine room_of (by first | omega | (dsimp only; omega)) ?_)) | (show ltK _ _ _; (refine lt_of (by omega) ?_)) | (show _ ∧ _; (refine ⟨?_, ?_⟩)) | (show keepK _ _ _ _ _; (refine keep_of (by first | exact List.Sublist.refl _ | exact List.Sublist.cons _ (List.Sublist.refl _) | exact List.Sublist.cons _ (List.Sublist.cons _ (List.Sublist.refl _)) | exact List.Sublist.cons _ (List.Sublist.cons _ (List.Sublist.cons _ (List.Sublist.refl _)))) (by first | exact (fun _ _ h => h) | exact (fun _ _ h => h.1) | exact (fun _ _ h => h.1.1)) ?_)) | (show ownK _ _ _ _ _; (refine own_keep ?_))))
      exact fin_of fun ρ w' hw => ⟨rfl, ext_of_abs hw (fun _ _ h => h)⟩
end Go.Proofs.Ytajbngkcgbehlaa
/- GB -/
namespace Go.Proofs.Ytajbngkcgbehlaa
open Go.SX
theorem ti (t : Nat) {i : TI} (h : tab.find? (fun p => Nat.beq p.1 t) = some (t, i)) : mkTI Try.prog t = some i := tabOk (t, i) (List.mem_of_find?_eq_some h)
theorem mixed : Try.prog.follows .mixedOrders = true := by kernel_rfl
theorem ends_of {B : Base} {v : SV} {H : Heap} {S : Asn} {nx : Nat} {w : World} {val : Value} (hb : ∀ R w', S.holds R w' → (baseA B.w0).holds R w') (hv : ∀ ρ, v.rf ρ = val) (hw0 : B.w0 = w) : finK B v H S nx (fun e w' => e = .returned val ∧ Ext w w') := by
  subst hw0
  exact fin_of fun ρ w' hw => ⟨by rw [hv], ext_of_abs hw hb⟩
theorem roRows_in {a : Addr} {k m : Nat} {S : Asn} {xs : List (List Value)} {K : List (List Value) → Prop} (hm : xs.length = m) (hS : ∀ R w, S.holds R w → RowsI w (some a) k xs) (hx : ∀ r ∈ xs, r.length = k ∧ ∀ v ∈ r, v.oneCell' = true) (h : K xs) : roRowsK a m k S K := by
  rw [roRowsK_def]
  refine ⟨xs, hm, hx, fun R w hw i r hi j v hj => ?_, h⟩
  rcases hS R w hw with h0 | ⟨a', ha, h1⟩
  · subst h0; simp at hi
  · obtain rfl : a = a' := by simpa using ha
    exact h1 i r hi j v hj
theorem ends_rows {B : Base} {H : Heap} {S : Asn} {nx i n k : Nat} {T : TypeId} {xs : List (List Value)} {w : World} (hb : ∀ R w', S.holds R w' → (baseA B.w0).holds R w') (hw0 : B.w0 = w) (he : (i, Ent.rows xs k T) ∈ H) (hn : n = xs.length) :
    finK B (.os i n) H S nx (fun e w' => ∃ v, e = .returned v ∧ Ext w w' ∧ NewRows w w' v k T xs) := by
  subst hw0 hn
  exact fin_of fun ρ w' hw => ⟨_, rfl, ext_of_abs hw hb, new_of_abs hw hb he⟩
theorem ends_bool {B : Base} {b : Bool} {c : Bool} {H : Heap} {S : Asn} {nx : Nat} {w : World} (hb : ∀ R w', S.holds R w' → (baseA B.w0).holds R w') (hw0 : B.w0 = w) (h : c = b) : finK B (.c (.bool b)) H S nx (fun e w' => e = .returned (.bool c) ∧ Ext w w') :=
  ends_of hb (fun _ => by rw [h]; rfl) hw0

/-- a slice of numbers: where it stands and what it holds -/
structure IntsV where
  base : Option Addr
  cap : Nat
  xs : List Int
def IntsV.val (v : IntsV) : Value := .slice v.base v.xs.length v.cap
structure IntsV.ok (w : World) (v : IntsV) : Prop where
  rows : RowsI w v.base 1 (ints v.xs)
  fits : ∀ x ∈ v.xs, -9223372036854775808 ≤ x ∧ x ≤ 9223372036854775807
  room : v.xs.length ≤ v.cap
  few : v.xs.length ≤ 1000000
theorem IntsV.ok.base {w : World} {v : IntsV} (h : v.ok w) (hl : 0 < v.xs.length) : ∃ a, v.base = some a := base_some (j := 0) h.rows (by rw [ints_length]; exact hl)

theorem take_step {xs ys : List Int} {k : Nat} (hx : k < xs.length) (hy : k < ys.length) (h : xs.take k = ys.take k) (he : xs[k] = ys[k]) : xs.take (k + 1) = ys.take (k + 1) := by
  rw [List.take_succ_eq_append_getElem hx, List.take_succ_eq_append_getElem hy, h, he]


set_option maxHeartbeats 1000000 in
theorem same_any (w : World) (x y : IntsV) (hx : x.ok w) (hy : y.ok w) :
    Calls Try.prog 39 #[x.val, y.val] w fun e w' => e = .returned (.bool (decide (x.xs = y.xs))) ∧ Ext w w' := by
  obtain ⟨ab, ac, xs⟩ := x
  obtain ⟨bb, bc, ys⟩ := y
  obtain ⟨hx, _, _, hfew⟩ := hx
  obtain ⟨hy, _, _, _⟩ := hy
  simp only [IntsV.val] at *
  refine calls_of tab tabOk Try.func39 rfl rfl rfl [] (fun _ => ⟨none, 0⟩) [.c (.slice ab xs.length ac), .c (.slice bb ys.length bc)] [] (baseA w) 0 rfl rfl (by show 2 ≤ _; decide) (abs_base w) ?_
  (repeat' ((conv => whnf) <;> first | (show drawK _ 6 _ _ _ _ _ _; (refine draw_quiet tabOk mixed (by kernel_rfl) ?_)) | (show Wp _ _ _ _ _ _ _; (refine Wp.go tabOk rfl ?_)) | (show @cmpK _ _ _; (first | refine cmp_yes (by omega) ?_ | refine cmp_no (by omega) ?_ | (refine cmp_both ?_ ?_ <;> intro _))) | (show wrapK _ _ _; (refine wrap_i64 (by omega) (by omega) ?_)) | (show leK _ _ _; (refine le_of (by first | exact Nat.le_refl _ | omega) ?_)) | (show roomK _ _ _; (refine room_of (by first | omega | (dsimp only; omega)) ?_)) | (show ltK _ _ _; (refine lt_of (by omega) ?_)) | (show _ ∧ _; (refine ⟨?_, ?_⟩)) | (show keepK _ _ _ _ _; (refine keep_of (by first | exact List.Sublist.refl _ | exact List.Sublist.cons _ (List.Sublist.refl _) | exact List.Sublist.cons _ (List.Sublist.cons _ (List.Sublist.refl _)) | exact List.Sublist.cons _ (List.Sublist.cons _ (List.Sublist.cons _ (List.Sublist.refl _)))) (by first | exact (fun _ _ h => h) | exact (fun _ _ h => h.1) | exact (fun _ _ h => h.1.1)) ?_)) | (show ownK _ _ _ _ _; (refine own_keep ?_))))
  · exact ends_bool (fun _ _ h => h) rfl (decide_eq_false (fun h => by subst h; omega))
  rename_i hne
  refine Wp.loop (σ := Nat) 0 (fun k => [(0, .c (.slice ab xs.length ac)), (1, .c (.slice bb ys.length bc)), (12, .c (.int .i64 xs.length)), (13, .c (.int .i64 k))]) (fun _ => []) (fun _ => baseA w)
      (fun k => k ≤ xs.length ∧ xs.take k = ys.take k) (fun k => xs.length - k) 0 [] (Nat.le_refl _) (fun s => ⟨rfl, rfl⟩) ⟨by simp, by simp⟩ ⟨rfl, ⟨rfl, rfl, rfl, rfl, trivial⟩, trivial, fun _ _ h => h⟩ ?_
  rintro k ⟨hk, he⟩
  by_cases hlt : k < xs.length
  · have hlt2 : k < ys.length := by omega
    obtain ⟨a, rfl⟩ : ∃ a, ab = some a := base_some (j := k) hx (by rw [ints_length]; omega)
    obtain ⟨b, rfl⟩ : ∃ a, bb = some a := base_some (j := k) hy (by rw [ints_length]; omega)
    (repeat' ((conv => whnf) <;> first | refine draw_quiet tabOk mixed (by kernel_rfl) ?_ | refine idx_of a k rfl rfl hlt ?_ | refine idx_of b k rfl rfl hlt2 ?_ | refine ro_row0 (fun R w' h => rows_base h hx) _ _ (ints_get hlt) rfl ?_ | refine ro_row0 (fun R w' h => rows_base h hy) _ _ (ints_get hlt2) rfl ?_ | (show drawK _ 6 _ _ _ _ _ _; (refine draw_quiet tabOk mixed (by kernel_rfl) ?_)) | (show Wp _ _ _ _ _ _ _; (refine Wp.go tabOk rfl ?_)) | (show @cmpK _ _ _; (first | refine cmp_yes (by omega) ?_ | refine cmp_no (by omega) ?_ | (refine cmp_both ?_ ?_ <;> intro _))) | (show wrapK _ _ _; (refine wrap_i64 (by omega) (by omega) ?_)) | (show leK _ _ _; (refine le_of (by first | exact Nat.le_refl _ | omega) ?_)) | (show roomK _ _ _; (refine room_of (by first | omega | (dsimp only; omega)) ?_)) | (show ltK _ _ _; (refine lt_of (by omega) ?_)) | (show _ ∧ _; (refine ⟨?_, ?_⟩)) | (show keepK _ _ _ _ _; (refine keep_of (by first | exact List.Sublist.refl _ | exact List.Sublist.cons _ (List.Sublist.refl _) | exact List.Sublist.cons _ (List.Sublist.cons _ (List.Sublist.refl _)) | exact List.Sublist.cons _ (List.Sublist.cons _ (List.Sublist.cons _ (List.Sublist.refl _)))) (by first | exact (fun _ _ h => h) | exact (fun _ _ h => h.1) | exact (fun _ _ h => h.1.1)) ?_)) | (show ownK _ _ _ _ _; (refine own_keep ?_))))
    · exact ends_bool (fun _ _ h => h) rfl (decide_eq_false (fun h => by subst h; omega))
    · rename_i h5
      exact ⟨k + 1, [], ⟨hlt, take_step hlt hlt2 he (by omega)⟩, by omega, rfl, ⟨rfl, rfl, rfl, rfl, trivial⟩, trivial, fun _ _ h => h⟩
  · have hxy : xs = ys := by rw [List.take_of_length_le (by omega), List.take_of_length_le (by omega)] at he; exact he
    (repeat' ((conv => whnf) <;> first | (show drawK _ 6 _ _ _ _ _ _; (refine draw_quiet tabOk mixed (by kernel_rfl) ?_)) | (show Wp _ _ _ _ _ _ _; (refine Wp.go tabOk rfl ?_)) | (show @cmpK _ _ _; (first | refine cmp_yes (by omega) ?_ | refine cmp_no (by omega) ?_ | (refine cmp_both ?_ ?_ <;> intro _))) | (show wrapK _ _ _; (refine wrap_i64 (by omega) (by omega) ?_)) | (show leK _ _ _; (refine le_of (by first | exact Nat.le_refl _ | omega) ?_)) | (show roomK _ _ _; (refine room_of (by first | omega | (dsimp only; omega)) ?_)) | (show ltK _ _ _; (refine lt_of (by omega) ?_)) | (show _ ∧ _; (refine ⟨?_, ?_⟩)) | (show keepK _ _ _ _ _; (refine keep_of (by first | exact List.Sublist.refl _ | exact List.Sublist.cons _ (List.Sublist.refl _) | exact List.Sublist.cons _ (List.Sublist.cons _ (List.Sublist.refl _)) | exact List.Sublist.cons _ (List.Sublist.cons _ (List.Sublist.cons _ (List.Sublist.refl _)))) (by first | exact (fun _ _ h => h) | exact (fun _ _ h => h.1) | exact (fun _ _ h => h.1.1)) ?_)) | (show ownK _ _ _ _ _; (refine own_keep ?_))))
    exact ends_bool (fun _ _ h => h) rfl (decide_eq_true hxy)

set_option maxHeartbeats 1000000 in
theorem equal_any (w : World) (x y : IntsV) (hx : x.ok w) (hy : y.ok w) :
    Calls Try.prog 116 #[x.val, y.val] w fun e w' => e = .returned (.bool (decide (x.xs = y.xs))) ∧ Ext w w' := by
  obtain ⟨ab, ac, xs⟩ := x
  obtain ⟨bb, bc, ys⟩ := y
  obtain ⟨hx, _, _, hfew⟩ := hx
  obtain ⟨hy, _, _, _⟩ := hy
  simp only [IntsV.val] at *
  refine calls_of tab tabOk Try.func116 rfl rfl rfl [] (fun _ => ⟨none, 0⟩) [.c (.slice ab xs.length ac), .c (.slice bb ys.length bc)] [] (baseA w) 0 rfl rfl (by show 2 ≤ _; decide) (abs_base w) ?_
  (repeat' ((conv => whnf) <;> first | (show drawK _ 6 _ _ _ _ _ _; (refine draw_quiet tabOk mixed (by kernel_rfl) ?_)) | (show Wp _ _ _ _ _ _ _; (refine Wp.go tabOk rfl ?_)) | (show @cmpK _ _ _; (first | refine cmp_yes (by omega) ?_ | refine cmp_no (by omega) ?_ | (refine cmp_both ?_ ?_ <;> intro _))) | (show wrapK _ _ _; (refine wrap_i64 (by omega) (by omega) ?_)) | (show leK _ _ _; (refine le_of (by first | exact Nat.le_refl _ | omega) ?_)) | (show roomK _ _ _; (refine room_of (by first | omega | (dsimp only; omega)) ?_)) | (show ltK _ _ _; (refine lt_of (by omega) ?_)) | (show _ ∧ _; (refine ⟨?_, ?_⟩)) | (show keepK _ _ _ _ _; (refine keep_of (by first | exact List.Sublist.refl _ | exact List.Sublist.cons _ (List.Sublist.refl _) | exact List.Sublist.cons _ (List.Sublist.cons _ (List.Sublist.refl _)) | exact List.Sublist.cons _ (List.Sublist.cons _ (List.Sublist.cons _ (List.Sublist.refl _)))) (by first | exact (fun _ _ h => h) | exact (fun _ _ h => h.1) | exact (fun _ _ h => h.1.1)) ?_)) | (show ownK _ _ _ _ _; (refine own_keep ?_))))
  · exact ends_bool (fun _ _ h => h) rfl (decide_eq_false (fun h => by subst h; omega))
  rename_i hne
  refine Wp.loop (σ := Nat) 0 (fun k => [(0, .c (.slice ab xs.length ac)), (1, .c (.slice bb ys.length bc)), (12, .c (.int .i64 xs.length)), (13, .c (.int .i64 k))]) (fun _ => []) (fun _ => baseA w)
      (fun k => k ≤ xs.length ∧ xs.take k = ys.take k) (fun k => xs.length - k) 0 [] (Nat.le_refl _) (fun s => ⟨rfl, rfl⟩) ⟨by simp, by simp⟩ ⟨rfl, ⟨rfl, rfl, rfl, rfl, trivial⟩, trivial, fun _ _ h => h⟩ ?_
  rintro k ⟨hk, he⟩
  by_cases hlt : k < xs.length
  · have hlt2 : k < ys.length := by omega
    obtain ⟨a, rfl⟩ : ∃ a, ab = some a := base_some (j := k) hx (by rw [ints_length]; omega)
    obtain ⟨b, rfl⟩ : ∃ a, bb = some a := base_some (j := k) hy (by rw [ints_length]; omega)
    (repeat' ((conv => whnf) <;> first | refine draw_quiet tabOk mixed (by kernel_rfl) ?_ | refine idx_of a k rfl rfl hlt ?_ | refine idx_of b k rfl rfl hlt2 ?_ | refine ro_row0 (fun R w' h => rows_base h hx) _ _ (ints_get hlt) rfl ?_ | refine ro_row0 (fun R w' h => rows_base h hy) _ _ (ints_get hlt2) rfl ?_ | (show drawK _ 6 _ _ _ _ _ _; (refine draw_quiet tabOk mixed (by kernel_rfl) ?_)) | (show Wp _ _ _ _ _ _ _; (refine Wp.go tabOk rfl ?_)) | (show @cmpK _ _ _; (first | refine cmp_yes (by omega) ?_ | refine cmp_no (by omega) ?_ | (refine cmp_both ?_ ?_ <;> intro _))) | (show wrapK _ _ _; (refine wrap_i64 (by omega) (by omega) ?_)) | (show leK _ _ _; (refine le_of (by first | exact Nat.le_refl _ | omega) ?_)) | (show roomK _ _ _; (refine room_of (by first | omega | (dsimp only; omega)) ?_)) | (show ltK _ _ _; (refine lt_of (by omega) ?_)) | (show _ ∧ _; (refine ⟨?_, ?_⟩)) | (show keepK _ _ _ _ _; (refine keep_of (by first | exact List.Sublist.refl _ | exact List.Sublist.cons _ (List.Sublist.refl _) | exact List.Sublist.cons _ (List.Sublist.cons _ (List.Sublist.refl _)) | exact List.Sublist.cons _ (List.Sublist.cons _ (List.Sublist.cons _ (List.Sublist.refl _)))) (by first | exact (fun _ _ h => h) | exact (fun _ _ h => h.1) | exact (fun _ _ h => h.1.1)) ?_)) | (show ownK _ _ _ _ _; (refine own_keep ?_))))
    · exact ends_bool (fun _ _ h => h) rfl (decide_eq_false (fun h => by subst h; omega))
    · rename_i h5
      exact ⟨k + 1, [], ⟨hlt, take_step hlt hlt2 he (by omega)⟩, by omega, rfl, ⟨rfl, rfl, rfl, rfl, trivial⟩, trivial, fun _ _ h => h⟩
  · have hxy : xs = ys := by rw [List.take_of_length_le (by omega), List.take_of_length_le (by omega)] at he; exact he
    (repeat' ((conv => whnf) <;> first | (show drawK _ 6 _ _ _ _ _ _; (refine draw_quiet tabOk mixed (by kernel_rfl) ?_)) | (show Wp _ _ _ _ _ _ _; (refine Wp.go tabOk rfl ?_)) | (show @cmpK _ _ _; (first | refine cmp_yes (by omega) ?_ | refine cmp_no (by omega) ?_ | (refine cmp_both ?_ ?_ <;> intro _))) | (show wrapK _ _ _; (refine wrap_i64 (by omega) (by omega) ?_)) | (show leK _ _ _; (refine le_of (by first | exact Nat.le_refl _ | omega) ?_)) | (show roomK _ _ _; (refine room_of (by first | omega | (dsimp only; omega)) ?_)) | (show ltK _ _ _; (refine lt_of (by omega) ?_)) | (show _ ∧ _; (refine ⟨?_, ?_⟩)) | (show keepK _ _ _ _ _; (refine keep_of (by first | exact List.Sublist.refl _ | exact List.Sublist.cons _ (List.Sublist.refl _) | exact List.Sublist.cons _ (List.Sublist.cons _ (List.Sublist.refl _)) | exact List.Sublist.cons _ (List.Sublist.cons _ (List.Sublist.cons _ (List.Sublist.refl _)))) (by first | exact (fun _ _ h => h) | exact (fun _ _ h => h.1) | exact (fun _ _ h => h.1.1)) ?_)) | (show ownK _ _ _ _ _; (refine own_keep ?_))))
    exact ends_bool (fun _ _ h => h) rfl (decide_eq_true hxy)
end Go.Proofs.Ytajbngkcgbehlaa
/- SA -/
namespace Go.Proofs.Ytajbngkcgbehlaa
open Go.SX Go.RowKit
/-! numbers as bytes, the greatest first -/
def beL (v : Int) : Nat → List Int
  | 0 => []
  | k + 1 => v / 256 ^ k % 256 :: beL v k
theorem beL_length (v : Int) : ∀ n, (beL v n).length = n
  | 0 => rfl
  | n + 1 => by unfold beL; rw [List.length_cons, beL_length v n]
theorem beL_byte (v : Int) : ∀ n, ∀ x ∈ beL v n, 0 ≤ x ∧ x ≤ 255
  | 0, x, h => by simp [beL] at h
  | n + 1, x, h => by
    unfold beL at h
    rcases List.mem_cons.1 h with rfl | h
    · exact ⟨Int.emod_nonneg _ (by decide), by have := Int.emod_lt_of_pos (v / 256 ^ n) (show (0 : Int) < 256 by decide); omega⟩
    · exact beL_byte v n x h
theorem beL_word (v : Int) : ∀ n, n ≤ 8 → beL (v % 18446744073709551616) n = beL v n
  | 0, _ => rfl
  | n + 1, hn => by
    unfold beL
    rw [beL_word v n (by omega)]
    congr 1
    have : n = 0 ∨ n = 1 ∨ n = 2 ∨ n = 3 ∨ n = 4 ∨ n = 5 ∨ n = 6 ∨ n = 7 := by omega
    rcases this with rfl | rfl | rfl | rfl | rfl | rfl | rfl | rfl
    · show v % 18446744073709551616 / 1 % 256 = v / 1 % 256; omega
    · show v % 18446744073709551616 / 256 % 256 = v / 256 % 256; omega
    · show v % 18446744073709551616 / 65536 % 256 = v / 65536 % 256; omega
    · show v % 18446744073709551616 / 16777216 % 256 = v / 16777216 % 256; omega
    · show v % 18446744073709551616 / 4294967296 % 256 = v / 4294967296 % 256; omega
    · show v % 18446744073709551616 / 1099511627776 % 256 = v / 1099511627776 % 256; omega
    · show v % 18446744073709551616 / 281474976710656 % 256 = v / 281474976710656 % 256; omega
    · show v % 18446744073709551616 / 72057594037927936 % 256 = v / 72057594037927936 % 256; omega
theorem pow_8 (k : Nat) : (2 : Int) ^ (8 * k) = 256 ^ k := by rw [Int.pow_mul]; rfl
theorem wrap_is {z : Int} (y : Int) {K : Int → Prop} (h : z = y) (h1 : -9223372036854775808 ≤ y) (h2 : y ≤ 9223372036854775807) (hk : K y) : wrapK .i64 z K := by
  subst h; exact wrap_i64 h1 h2 hk
theorem byts_snoc (l : List Int) (x : Int) {i n : Nat} {T : TypeId} {H : Heap} (hn : n = l.length) : (i, Ent.rows (byts (l ++ [x])) 1 T) ∈ (i, Ent.rows (List.take n (byts l) ++ [[.int .u8 x]]) 1 T) :: H := by
  subst hn
  rw [show byts (l ++ [x]) = List.take l.length (byts l) ++ [[.int .u8 x]] by rw [List.take_of_length_le (by rw [byts_length]; exact Nat.le_refl _)]; simp [byts]]
  exact List.mem_cons_self
/-! the writer -/
abbrev WrAt (bs : List Int) (b : Nat) (F : Nat → Prop) (w : World) : Prop := SliceAt 86 5 1 (byts bs) b F w
abbrev WrPost (w : World) (b : Nat) (F : Nat → Prop) (bs : List Int) : Ending → World → Prop := SlicePost w b F 86 5 1 (fun _ : Unit => .tuple #[]) (fun _ => byts bs) (fun _ => True)
theorem wr_end {w : World} {b : Nat} {F : Nat → Prop} {bs : List Int} {v : SV} {H : Heap} {S : Asn} {nx j n : Nat} {ys : List (List Value)} (hFb : F b) (hv : ∀ ρ, v.rf ρ = .tuple #[]) (h0 : (0, Ent.box [.os j n] 86) ∈ H) (hj : (j, Ent.rows ys 1 5) ∈ H) (hne : j ≠ 0) (hn : n ≤ ys.length) (he : ys.take n = byts bs)
    (hS : ∀ R w', S.holds R w' → (restF w F).holds R w') : finK ⟨w, [(0, boxL b)]⟩ v H S nx (WrPost w b F bs) :=
  fin_of fun ρ w' hw => ⟨(), trivial, by rw [hv], (slice_end hw hS h0 hj hne hn hFb).1, by
    have := (slice_end hw hS h0 hj hne hn hFb).2
    rw [he] at this
    exact this⟩
set_option maxRecDepth 20000 in
theorem wnum_any (w : World) (b : Nat) (F : Nat → Prop) (bs : List Int) (v : Int) (n : Nat) (hn : n ≤ 8) (hv : 0 ≤ v) (hl : bs.length ≤ 1000000) (h : WrAt bs b F w) :
    Calls Try.prog 96 #[.pointer (some ⟨b, 0, none⟩), .int .u64 v, .int .i64 n] w (WrPost w b F (bs ++ beL v n)) := by
  obtain ⟨l, habs⟩ := abs_slice h
  rw [byts_length] at habs
  
  refine calls_of tab tabOk Try.func96 rfl rfl rfl [(0, boxL b)] (fun i => if i = 0 then boxL b else l) [.lp 0 0 0 0, .c (.int .u64 v), .c (.int .i64 n)] _ (restF w F) 2 (by simp [SV.rfs, SV.rf, boxL, add_none]) rfl (by show 3 ≤ _; decide) habs ?_
  (repeat' ((conv => whnf) <;> first | (show wrapK _ _ _; (refine wrap_i64 (by omega) (by omega) ?_)) | (show Wp _ _ _ _ _ _ _; (refine Wp.go tabOk rfl ?_)) | (show @cmpK _ _ _; (first | refine cmp_yes (by omega) ?_ | refine cmp_no (by omega) ?_ | (refine cmp_both ?_ ?_ <;> intro _))) | (show wrapK _ _ _; (refine wrap_i64 (by omega) (by omega) ?_)) | (show leK _ _ _; (refine le_of (by first | exact Nat.le_refl _ | omega) ?_)) | (show roomK _ _ _; (refine room_of (by first | omega | (dsimp only; omega)) ?_)) | (show ltK _ _ _; (refine lt_of (by omega) ?_)) | (show _ ∧ _; (refine ⟨?_, ?_⟩)) | (show keepK _ _ _ _ _; (refine keep_of (by first | exact List.Sublist.refl _ | exact List.Sublist.cons _ (List.Sublist.refl _) | exact List.Sublist.cons _ (List.Sublist.cons _ (List.Sublist.refl _)) | exact List.Sublist.cons _ (List.Sublist.cons _ (List.Sublist.cons _ (List.Sublist.refl _)))) (by first | exact (fun _ _ h => h) | exact (fun _ _ h => h.1) | exact (fun _ _ h => h.1.1)) ?_)) | (show ownK _ _ _ _ _; (refine own_keep ?_))))
  refine Wp.loop (σ := Nat × Nat × List Int) 3 (fun ⟨k, _, _⟩ => [(0, .lp 0 0 0 0), (1, .c (.int .u64 v)), (2, .c (.int .i64 ((k : Int) - 1)))]) (fun ⟨_, m, cur⟩ => [(2, .rows (byts cur) 1 5), (0, .box [.os 2 m] 86)]) (fun _ => restF w F)
    (fun ⟨k, m, cur⟩ => k ≤ n ∧ cur ++ beL v k = bs ++ beL v n ∧ m = cur.length ∧ cur.length ≤ bs.length + (n - k)) (fun s => s.1) (n, bs.length, bs) [(2, some 1)] (by decide) (fun s => ⟨rfl, rfl⟩) ⟨Nat.le_refl _, rfl, rfl, by omega⟩ ⟨rfl, ⟨rfl, rfl, rfl, trivial⟩, ⟨List.mem_cons_of_mem _ List.mem_cons_self, List.mem_cons_self, trivial⟩, fun _ _ h => h⟩ ?_
  rintro ⟨k, m, cur⟩ ⟨hk, he, hm, hc⟩
  rcases k with _ | k
  · (repeat' ((conv => whnf) <;> first | (show Wp _ _ _ _ _ _ _; (refine Wp.go tabOk rfl ?_)) | (show @cmpK _ _ _; (first | refine cmp_yes (by omega) ?_ | refine cmp_no (by omega) ?_ | (refine cmp_both ?_ ?_ <;> intro _))) | (show wrapK _ _ _; (refine wrap_i64 (by omega) (by omega) ?_)) | (show leK _ _ _; (refine le_of (by first | exact Nat.le_refl _ | omega) ?_)) | (show roomK _ _ _; (refine room_of (by first | omega | (dsimp only; omega)) ?_)) | (show ltK _ _ _; (refine lt_of (by omega) ?_)) | (show _ ∧ _; (refine ⟨?_, ?_⟩)) | (show keepK _ _ _ _ _; (refine keep_of (by first | exact List.Sublist.refl _ | exact List.Sublist.cons _ (List.Sublist.refl _) | exact List.Sublist.cons _ (List.Sublist.cons _ (List.Sublist.refl _)) | exact List.Sublist.cons _ (List.Sublist.cons _ (List.Sublist.cons _ (List.Sublist.refl _)))) (by first | exact (fun _ _ h => h) | exact (fun _ _ h => h.1) | exact (fun _ _ h => h.1.1)) ?_)) | (show ownK _ _ _ _ _; (refine own_keep ?_))))
    conv => whnf
    rw [show beL v 0 = [] from rfl, List.append_nil] at he
    exact wr_end h.at (fun _ => rfl) (List.mem_cons_of_mem _ List.mem_cons_self) List.mem_cons_self (by decide) (by rw [byts_length, hm]; exact Nat.le_refl _) (by rw [← he, List.take_of_length_le (by rw [byts_length, hm]; exact Nat.le_refl _)]) (fun _ _ h => h)
  · (repeat' ((conv => whnf) <;> first | (show wrapK _ _ _; (first | refine wrap_is (8 * (k : Int)) (by omega) (by omega) (by omega) ?_ | refine wrap_is ((k : Int) - 1) (by omega) (by omega) (by omega) ?_ | refine wrap_u64 (by omega) (by omega) ?_ | refine wrap_byte ?_)) | (show shiftK _ _ _ _ _; (refine shr_of (z := v / 256 ^ k) (8 * k) (by omega) (by omega) (by rw [pow_8]) ?_)) | (show leK _ _ _; (refine le_of (by rw [byts_length, hm]; exact Nat.le_refl _) ?_)) | (show roomK _ _ _; (refine room_of (by show (m + 1) * 1 ≤ 140737488355328; omega) ?_)) | (show Wp _ _ _ _ _ _ _; (refine Wp.go tabOk rfl ?_)) | (show @cmpK _ _ _; (first | refine cmp_yes (by omega) ?_ | refine cmp_no (by omega) ?_ | (refine cmp_both ?_ ?_ <;> intro _))) | (show wrapK _ _ _; (refine wrap_i64 (by omega) (by omega) ?_)) | (show leK _ _ _; (refine le_of (by first | exact Nat.le_refl _ | omega) ?_)) | (show roomK _ _ _; (refine room_of (by first | omega | (dsimp only; omega)) ?_)) | (show ltK _ _ _; (refine lt_of (by omega) ?_)) | (show _ ∧ _; (refine ⟨?_, ?_⟩)) | (show keepK _ _ _ _ _; (refine keep_of (by first | exact List.Sublist.refl _ | exact List.Sublist.cons _ (List.Sublist.refl _) | exact List.Sublist.cons _ (List.Sublist.cons _ (List.Sublist.refl _)) | exact List.Sublist.cons _ (List.Sublist.cons _ (List.Sublist.cons _ (List.Sublist.refl _)))) (by first | exact (fun _ _ h => h) | exact (fun _ _ h => h.1) | exact (fun _ _ h => h.1.1)) ?_)) | (show ownK _ _ _ _ _; (refine own_keep ?_))))
    conv => whnf
    exact ⟨(k, m + 1, cur ++ [v / 256 ^ k % 256]), [(2, some 4)], ⟨by omega, by rw [List.append_assoc]; exact he, by rw [List.length_append, hm]; rfl, by rw [List.length_append, List.length_singleton]; omega⟩, Nat.lt_succ_self k, rfl, ⟨rfl, rfl, rfl, trivial⟩, ⟨byts_snoc _ _ hm, List.mem_cons_of_mem _ (List.mem_cons_of_mem _ List.mem_cons_self), trivial⟩, fun _ _ h => h⟩
/-- a call that writes -/
theorem call_wr {B : Base} {n i : Nat} {f : FuncId} {H : Heap} {S : Asn} {nx : Nat} {K : SV → Heap → Asn → Nat → Prop} {bs : List Int} (rest : List Value) (bs' : List Int) (hi : (i, Ent.ext (sliceO 86 5 1 (byts bs))) ∈ H) (hf : ∀ ar w, (callFunc f ar).run Try.prog w = .ok (.enter f ar) w)
    (hc : ∀ w b F, WrAt bs b F w → Calls Try.prog f (Value.pointer (some ⟨b, 0, none⟩) :: rest).toArray w (WrPost w b F bs'))
    (h : K (.c (.tuple #[])) (setH i (.ext (sliceO 86 5 1 (byts bs'))) H) S nx) : callK ⟨Try.prog, B, n, tab⟩ f (.lp i 0 0 0 :: cs rest) H S nx K := by
  refine call_slice hi hf (fun _ : Unit => .tuple #[]) (fun _ => byts bs') (fun _ => True) (fun ρ w b F hw hbox hb hs => ?_) (fun _ _ => h)
  have e : SV.rfs ρ (.lp i 0 0 0 :: cs rest) = Value.pointer (some ⟨b, 0, none⟩) :: rest := by simp [SV.rfs, SV.rf, hb, add_none, rfs_cs]
  rw [e]
  exact hc w b F hs
theorem wr_fin {w : World} {b : Nat} {F : Nat → Prop} {bs : List Int} {v : SV} {H : Heap} {S : Asn} {nx : Nat} (hv : ∀ ρ, v.rf ρ = .tuple #[]) (h0 : (0, Ent.ext (sliceO 86 5 1 (byts bs))) ∈ H)
    (hS : ∀ R w', S.holds R w' → (restF w F).holds R w') : finK ⟨w, [(0, boxL b)]⟩ v H S nx (WrPost w b F bs) :=
  fin_of fun ρ w' hw => ⟨(), trivial, by rw [hv], (ext_end hw List.mem_cons_self hS h0).1, (ext_end hw List.mem_cons_self hS h0).2⟩
theorem wone_any (w : World) (b : Nat) (F : Nat → Prop) (bs : List Int) (v : Int) (hl : bs.length ≤ 1000000) (h : WrAt bs b F w) :
    Calls Try.prog 71 #[.pointer (some ⟨b, 0, none⟩), .int .i64 v] w (WrPost w b F (bs ++ beL v 1)) := by
  
  refine calls_of tab tabOk Try.func71 rfl rfl rfl [(0, boxL b)] (fun _ => boxL b) [.lp 0 0 0 0, .c (.int .i64 v)] _ (restF w F) 1 (by simp [SV.rfs, SV.rf, boxL, add_none]) rfl (by show 2 ≤ _; decide) (abs_ext h) ?_
  (repeat' ((conv => whnf) <;> first | (show wrapK _ _ _; (refine wrap_word ?_)) | (show Wp _ _ _ _ _ _ _; (refine Wp.go tabOk rfl ?_)) | (show @cmpK _ _ _; (first | refine cmp_yes (by omega) ?_ | refine cmp_no (by omega) ?_ | (refine cmp_both ?_ ?_ <;> intro _))) | (show wrapK _ _ _; (refine wrap_i64 (by omega) (by omega) ?_)) | (show leK _ _ _; (refine le_of (by first | exact Nat.le_refl _ | omega) ?_)) | (show roomK _ _ _; (refine room_of (by first | omega | (dsimp only; omega)) ?_)) | (show ltK _ _ _; (refine lt_of (by omega) ?_)) | (show _ ∧ _; (refine ⟨?_, ?_⟩)) | (show keepK _ _ _ _ _; (refine keep_of (by first | exact List.Sublist.refl _ | exact List.Sublist.cons _ (List.Sublist.refl _) | exact List.Sublist.cons _ (List.Sublist.cons _ (List.Sublist.refl _)) | exact List.Sublist.cons _ (List.Sublist.cons _ (List.Sublist.cons _ (List.Sublist.refl _)))) (by first | exact (fun _ _ h => h) | exact (fun _ _ h => h.1) | exact (fun _ _ h => h.1.1)) ?_)) | (show ownK _ _ _ _ _; (refine own_keep ?_))))
  rw [← beL_word v 1 (by decide)]
  refine call_wr [.int .u64 (v % 18446744073709551616), .int .i64 1] _ List.mem_cons_self Try.call96 (fun w b F h => wnum_any w b F bs _ 1 (by decide) (Int.emod_nonneg _ (by decide)) hl h) ?_
  (repeat' ((conv => whnf) <;> first | (show Wp _ _ _ _ _ _ _; (refine Wp.go tabOk rfl ?_)) | (show @cmpK _ _ _; (first | refine cmp_yes (by omega) ?_ | refine cmp_no (by omega) ?_ | (refine cmp_both ?_ ?_ <;> intro _))) | (show wrapK _ _ _; (refine wrap_i64 (by omega) (by omega) ?_)) | (show leK _ _ _; (refine le_of (by first | exact Nat.le_refl _ | omega) ?_)) | (show roomK _ _ _; (refine room_of (by first | omega | (dsimp only; omega)) ?_)) | (show ltK _ _ _; (refine lt_of (by omega) ?_)) | (show _ ∧ _; (refine ⟨?_, ?_⟩)) | (show keepK _ _ _ _ _; (refine keep_of (by first | exact List.Sublist.refl _ | exact List.Sublist.cons _ (List.Sublist.refl _) | exact List.Sublist.cons _ (List.Sublist.cons _ (List.Sublist.refl _)) | exact List.Sublist.cons _ (List.Sublist.cons _ (List.Sublist.cons _ (List.Sublist.refl _)))) (by first | exact (fun _ _ h => h) | exact (fun _ _ h => h.1) | exact (fun _ _ h => h.1.1)) ?_)) | (show ownK _ _ _ _ _; (refine own_keep ?_))))
  conv => whnf
  exact wr_fin (fun _ => rfl) List.mem_cons_self (fun _ _ h => h)
theorem wtwo_any (w : World) (b : Nat) (F : Nat → Prop) (bs : List Int) (v : Int) (hl : bs.length ≤ 1000000) (h : WrAt bs b F w) :
    Calls Try.prog 53 #[.pointer (some ⟨b, 0, none⟩), .int .i64 v] w (WrPost w b F (bs ++ beL v 2)) := by
  
  refine calls_of tab tabOk Try.func53 rfl rfl rfl [(0, boxL b)] (fun _ => boxL b) [.lp 0 0 0 0, .c (.int .i64 v)] _ (restF w F) 1 (by simp [SV.rfs, SV.rf, boxL, add_none]) rfl (by show 2 ≤ _; decide) (abs_ext h) ?_
  (repeat' ((conv => whnf) <;> first | (show wrapK _ _ _; (refine wrap_word ?_)) | (show Wp _ _ _ _ _ _ _; (refine Wp.go tabOk rfl ?_)) | (show @cmpK _ _ _; (first | refine cmp_yes (by omega) ?_ | refine cmp_no (by omega) ?_ | (refine cmp_both ?_ ?_ <;> intro _))) | (show wrapK _ _ _; (refine wrap_i64 (by omega) (by omega) ?_)) | (show leK _ _ _; (refine le_of (by first | exact Nat.le_refl _ | omega) ?_)) | (show roomK _ _ _; (refine room_of (by first | omega | (dsimp only; omega)) ?_)) | (show ltK _ _ _; (refine lt_of (by omega) ?_)) | (show _ ∧ _; (refine ⟨?_, ?_⟩)) | (show keepK _ _ _ _ _; (refine keep_of (by first | exact List.Sublist.refl _ | exact List.Sublist.cons _ (List.Sublist.refl _) | exact List.Sublist.cons _ (List.Sublist.cons _ (List.Sublist.refl _)) | exact List.Sublist.cons _ (List.Sublist.cons _ (List.Sublist.cons _ (List.Sublist.refl _)))) (by first | exact (fun _ _ h => h) | exact (fun _ _ h => h.1) | exact (fun _ _ h => h.1.1)) ?_)) | (show ownK _ _ _ _ _; (refine own_keep ?_))))
  rw [← beL_word v 2 (by decide)]
  refine call_wr [.int .u64 (v % 18446744073709551616), .int .i64 2] _ List.mem_cons_self Try.call96 (fun w b F h => wnum_any w b F bs _ 2 (by decide) (Int.emod_nonneg _ (by decide)) hl h) ?_
  (repeat' ((conv => whnf) <;> first | (show Wp _ _ _ _ _ _ _; (refine Wp.go tabOk rfl ?_)) | (show @cmpK _ _ _; (first | refine cmp_yes (by omega) ?_ | refine cmp_no (by omega) ?_ | (refine cmp_both ?_ ?_ <;> intro _))) | (show wrapK _ _ _; (refine wrap_i64 (by omega) (by omega) ?_)) | (show leK _ _ _; (refine le_of (by first | exact Nat.le_refl _ | omega) ?_)) | (show roomK _ _ _; (refine room_of (by first | omega | (dsimp only; omega)) ?_)) | (show ltK _ _ _; (refine lt_of (by omega) ?_)) | (show _ ∧ _; (refine ⟨?_, ?_⟩)) | (show keepK _ _ _ _ _; (refine keep_of (by first | exact List.Sublist.refl _ | exact List.Sublist.cons _ (List.Sublist.refl _) | exact List.Sublist.cons _ (List.Sublist.cons _ (List.Sublist.refl _)) | exact List.Sublist.cons _ (List.Sublist.cons _ (List.Sublist.cons _ (List.Sublist.refl _)))) (by first | exact (fun _ _ h => h) | exact (fun _ _ h => h.1) | exact (fun _ _ h => h.1.1)) ?_)) | (show ownK _ _ _ _ _; (refine own_keep ?_))))
  conv => whnf
  exact wr_fin (fun _ => rfl) List.mem_cons_self (fun _ _ h => h)
theorem wsigned_any (w : World) (b : Nat) (F : Nat → Prop) (bs : List Int) (v : Int) (hl : bs.length ≤ 1000000) (h : WrAt bs b F w) :
    Calls Try.prog 103 #[.pointer (some ⟨b, 0, none⟩), .int .i64 v] w (WrPost w b F (bs ++ beL v 4)) := by
  
  refine calls_of tab tabOk Try.func103 rfl rfl rfl [(0, boxL b)] (fun _ => boxL b) [.lp 0 0 0 0, .c (.int .i64 v)] _ (restF w F) 1 (by simp [SV.rfs, SV.rf, boxL, add_none]) rfl (by show 2 ≤ _; decide) (abs_ext h) ?_
  (repeat' ((conv => whnf) <;> first | (show wrapK _ _ _; (refine wrap_word ?_)) | (show Wp _ _ _ _ _ _ _; (refine Wp.go tabOk rfl ?_)) | (show @cmpK _ _ _; (first | refine cmp_yes (by omega) ?_ | refine cmp_no (by omega) ?_ | (refine cmp_both ?_ ?_ <;> intro _))) | (show wrapK _ _ _; (refine wrap_i64 (by omega) (by omega) ?_)) | (show leK _ _ _; (refine le_of (by first | exact Nat.le_refl _ | omega) ?_)) | (show roomK _ _ _; (refine room_of (by first | omega | (dsimp only; omega)) ?_)) | (show ltK _ _ _; (refine lt_of (by omega) ?_)) | (show _ ∧ _; (refine ⟨?_, ?_⟩)) | (show keepK _ _ _ _ _; (refine keep_of (by first | exact List.Sublist.refl _ | exact List.Sublist.cons _ (List.Sublist.refl _) | exact List.Sublist.cons _ (List.Sublist.cons _ (List.Sublist.refl _)) | exact List.Sublist.cons _ (List.Sublist.cons _ (List.Sublist.cons _ (List.Sublist.refl _)))) (by first | exact (fun _ _ h => h) | exact (fun _ _ h => h.1) | exact (fun _ _ h => h.1.1)) ?_)) | (show ownK _ _ _ _ _; (refine own_keep ?_))))
  rw [← beL_word v 4 (by decide)]
  refine call_wr [.int .u64 (v % 18446744073709551616), .int .i64 4] _ List.mem_cons_self Try.call96 (fun w b F h => wnum_any w b F bs _ 4 (by decide) (Int.emod_nonneg _ (by decide)) hl h) ?_
  (repeat' ((conv => whnf) <;> first | (show Wp _ _ _ _ _ _ _; (refine Wp.go tabOk rfl ?_)) | (show @cmpK _ _ _; (first | refine cmp_yes (by omega) ?_ | refine cmp_no (by omega) ?_ | (refine cmp_both ?_ ?_ <;> intro _))) | (show wrapK _ _ _; (refine wrap_i64 (by omega) (by omega) ?_)) | (show leK _ _ _; (refine le_of (by first | exact Nat.le_refl _ | omega) ?_)) | (show roomK _ _ _; (refine room_of (by first | omega | (dsimp only; omega)) ?_)) | (show ltK _ _ _; (refine lt_of (by omega) ?_)) | (show _ ∧ _; (refine ⟨?_, ?_⟩)) | (show keepK _ _ _ _ _; (refine keep_of (by first | exact List.Sublist.refl _ | exact List.Sublist.cons _ (List.Sublist.refl _) | exact List.Sublist.cons _ (List.Sublist.cons _ (List.Sublist.refl _)) | exact List.Sublist.cons _ (List.Sublist.cons _ (List.Sublist.cons _ (List.Sublist.refl _)))) (by first | exact (fun _ _ h => h) | exact (fun _ _ h => h.1) | exact (fun _ _ h => h.1.1)) ?_)) | (show ownK _ _ _ _ _; (refine own_keep ?_))))
  conv => whnf
  exact wr_fin (fun _ => rfl) List.mem_cons_self (fun _ _ h => h)
theorem wtruth_any (w : World) (b : Nat) (F : Nat → Prop) (bs : List Int) (y : Bool) (hl : bs.length ≤ 1000000) (h : WrAt bs b F w) :
    Calls Try.prog 52 #[.pointer (some ⟨b, 0, none⟩), .bool y] w (WrPost w b F (bs ++ [if y then 1 else 0])) := by
  cases y with
  | true =>
    
    refine calls_of tab tabOk Try.func52 rfl rfl rfl [(0, boxL b)] (fun _ => boxL b) [.lp 0 0 0 0, .c (.bool true)] _ (restF w F) 1 (by simp [SV.rfs, SV.rf, boxL, add_none]) rfl (by show 2 ≤ _; decide) (abs_ext h) ?_
    (repeat' ((conv => whnf) <;> first | (show Wp _ _ _ _ _ _ _; (refine Wp.go tabOk rfl ?_)) | (show @cmpK _ _ _; (first | refine cmp_yes (by omega) ?_ | refine cmp_no (by omega) ?_ | (refine cmp_both ?_ ?_ <;> intro _))) | (show wrapK _ _ _; (refine wrap_i64 (by omega) (by omega) ?_)) | (show leK _ _ _; (refine le_of (by first | exact Nat.le_refl _ | omega) ?_)) | (show roomK _ _ _; (refine room_of (by first | omega | (dsimp only; omega)) ?_)) | (show ltK _ _ _; (refine lt_of (by omega) ?_)) | (show _ ∧ _; (refine ⟨?_, ?_⟩)) | (show keepK _ _ _ _ _; (refine keep_of (by first | exact List.Sublist.refl _ | exact List.Sublist.cons _ (List.Sublist.refl _) | exact List.Sublist.cons _ (List.Sublist.cons _ (List.Sublist.refl _)) | exact List.Sublist.cons _ (List.Sublist.cons _ (List.Sublist.cons _ (List.Sublist.refl _)))) (by first | exact (fun _ _ h => h) | exact (fun _ _ h => h.1) | exact (fun _ _ h => h.1.1)) ?_)) | (show ownK _ _ _ _ _; (refine own_keep ?_))))
    refine call_wr [.int .i64 1] _ List.mem_cons_self Try.call71 (fun w b F h => wone_any w b F bs 1 (by omega) h) ?_
    (repeat' ((conv => whnf) <;> first | (show Wp _ _ _ _ _ _ _; (refine Wp.go tabOk rfl ?_)) | (show @cmpK _ _ _; (first | refine cmp_yes (by omega) ?_ | refine cmp_no (by omega) ?_ | (refine cmp_both ?_ ?_ <;> intro _))) | (show wrapK _ _ _; (refine wrap_i64 (by omega) (by omega) ?_)) | (show leK _ _ _; (refine le_of (by first | exact Nat.le_refl _ | omega) ?_)) | (show roomK _ _ _; (refine room_of (by first | omega | (dsimp only; omega)) ?_)) | (show ltK _ _ _; (refine lt_of (by omega) ?_)) | (show _ ∧ _; (refine ⟨?_, ?_⟩)) | (show keepK _ _ _ _ _; (refine keep_of (by first | exact List.Sublist.refl _ | exact List.Sublist.cons _ (List.Sublist.refl _) | exact List.Sublist.cons _ (List.Sublist.cons _ (List.Sublist.refl _)) | exact List.Sublist.cons _ (List.Sublist.cons _ (List.Sublist.cons _ (List.Sublist.refl _)))) (by first | exact (fun _ _ h => h) | exact (fun _ _ h => h.1) | exact (fun _ _ h => h.1.1)) ?_)) | (show ownK _ _ _ _ _; (refine own_keep ?_))))
    conv => whnf
    exact wr_fin (fun _ => rfl) List.mem_cons_self (fun _ _ h => h)
  | false =>
    
    refine calls_of tab tabOk Try.func52 rfl rfl rfl [(0, boxL b)] (fun _ => boxL b) [.lp 0 0 0 0, .c (.bool false)] _ (restF w F) 1 (by simp [SV.rfs, SV.rf, boxL, add_none]) rfl (by show 2 ≤ _; decide) (abs_ext h) ?_
    (repeat' ((conv => whnf) <;> first | (show Wp _ _ _ _ _ _ _; (refine Wp.go tabOk rfl ?_)) | (show @cmpK _ _ _; (first | refine cmp_yes (by omega) ?_ | refine cmp_no (by omega) ?_ | (refine cmp_both ?_ ?_ <;> intro _))) | (show wrapK _ _ _; (refine wrap_i64 (by omega) (by omega) ?_)) | (show leK _ _ _; (refine le_of (by first | exact Nat.le_refl _ | omega) ?_)) | (show roomK _ _ _; (refine room_of (by first | omega | (dsimp only; omega)) ?_)) | (show ltK _ _ _; (refine lt_of (by omega) ?_)) | (show _ ∧ _; (refine ⟨?_, ?_⟩)) | (show keepK _ _ _ _ _; (refine keep_of (by first | exact List.Sublist.refl _ | exact List.Sublist.cons _ (List.Sublist.refl _) | exact List.Sublist.cons _ (List.Sublist.cons _ (List.Sublist.refl _)) | exact List.Sublist.cons _ (List.Sublist.cons _ (List.Sublist.cons _ (List.Sublist.refl _)))) (by first | exact (fun _ _ h => h) | exact (fun _ _ h => h.1) | exact (fun _ _ h => h.1.1)) ?_)) | (show ownK _ _ _ _ _; (refine own_keep ?_))))
    refine call_wr [.int .i64 0] _ List.mem_cons_self Try.call71 (fun w b F h => wone_any w b F bs 0 (by omega) h) ?_
    (repeat' ((conv => whnf) <;> first | (show Wp _ _ _ _ _ _ _; (refine Wp.go tabOk rfl ?_)) | (show @cmpK _ _ _; (first | refine cmp_yes (by omega) ?_ | refine cmp_no (by omega) ?_ | (refine cmp_both ?_ ?_ <;> intro _))) | (show wrapK _ _ _; (refine wrap_i64 (by omega) (by omega) ?_)) | (show leK _ _ _; (refine le_of (by first | exact Nat.le_refl _ | omega) ?_)) | (show roomK _ _ _; (refine room_of (by first | omega | (dsimp only; omega)) ?_)) | (show ltK _ _ _; (refine lt_of (by omega) ?_)) | (show _ ∧ _; (refine ⟨?_, ?_⟩)) | (show keepK _ _ _ _ _; (refine keep_of (by first | exact List.Sublist.refl _ | exact List.Sublist.cons _ (List.Sublist.refl _) | exact List.Sublist.cons _ (List.Sublist.cons _ (List.Sublist.refl _)) | exact List.Sublist.cons _ (List.Sublist.cons _ (List.Sublist.cons _ (List.Sublist.refl _)))) (by first | exact (fun _ _ h => h) | exact (fun _ _ h => h.1) | exact (fun _ _ h => h.1.1)) ?_)) | (show ownK _ _ _ _ _; (refine own_keep ?_))))
    conv => whnf
    exact wr_fin (fun _ => rfl) List.mem_cons_self (fun _ _ h => h)
end Go.Proofs.Ytajbngkcgbehlaa
/- SB -/
namespace Go.Proofs.Ytajbngkcgbehlaa
open Go.SX Go.RowKit
structure OptV where
  layout : Int
  tidy : Bool
  lazy_ : Bool
  giant : Bool
  rows : Int
deriving DecidableEq
def OptV.cells (o : OptV) : List Value := [.int .i64 o.layout, .bool o.tidy, .bool o.lazy_, .bool o.giant, .int .i64 o.rows]
def OptV.val (o : OptV) : Value := .agg o.cells.toArray
def OptV.good (o : OptV) : Prop := 0 ≤ o.layout ∧ o.layout ≤ 255 ∧ 0 ≤ o.rows ∧ o.rows ≤ 65535
def bitI (b : Bool) : Int := if b then 1 else 0
def optBytes (o : OptV) : List Int := [7, o.layout, bitI o.tidy, bitI o.lazy_, bitI o.giant] ++ beL o.rows 2
abbrev BytesPost (w : World) (bs : List Int) : Ending → World → Prop := fun e w' => ∃ u : Unit, True ∧ ∃ v, e = .returned v ∧ Ext w w' ∧ NewRows w w' v 1 5 (byts bs)
theorem num_any (w : World) (v : Int) (n : Nat) (hn : n ≤ 8) (hv : 0 ≤ v) : Calls Try.prog 55 #[.int .u64 v, .int .i64 n] w (BytesPost w (beL v n)) := by
  refine calls_of tab tabOk Try.func55 rfl rfl rfl [] (fun _ => ⟨none, 0⟩) [.c (.int .u64 v), .c (.int .i64 n)] [] (baseA w) 0 rfl rfl (by show 2 ≤ _; decide) (abs_base w) ?_
  (repeat' ((conv => whnf) <;> first | (show wrapK _ _ _; (refine wrap_i64 (by omega) (by omega) ?_)) | (show Wp _ _ _ _ _ _ _; (refine Wp.go tabOk rfl ?_)) | (show @cmpK _ _ _; (first | refine cmp_yes (by omega) ?_ | refine cmp_no (by omega) ?_ | (refine cmp_both ?_ ?_ <;> intro _))) | (show wrapK _ _ _; (refine wrap_i64 (by omega) (by omega) ?_)) | (show leK _ _ _; (refine le_of (by first | exact Nat.le_refl _ | omega) ?_)) | (show roomK _ _ _; (refine room_of (by first | omega | (dsimp only; omega)) ?_)) | (show ltK _ _ _; (refine lt_of (by omega) ?_)) | (show _ ∧ _; (refine ⟨?_, ?_⟩)) | (show keepK _ _ _ _ _; (refine keep_of (by first | exact List.Sublist.refl _ | exact List.Sublist.cons _ (List.Sublist.refl _) | exact List.Sublist.cons _ (List.Sublist.cons _ (List.Sublist.refl _)) | exact List.Sublist.cons _ (List.Sublist.cons _ (List.Sublist.cons _ (List.Sublist.refl _)))) (by first | exact (fun _ _ h => h) | exact (fun _ _ h => h.1) | exact (fun _ _ h => h.1.1)) ?_)) | (show ownK _ _ _ _ _; (refine own_keep ?_))))
  refine Wp.loop (σ := Nat × Nat × List Int) 1 (fun ⟨k, m, _⟩ => [(0, .c (.int .u64 v)), (5, .os 0 m), (6, .c (.int .i64 ((k : Int) - 1)))]) (fun ⟨_, _, cur⟩ => [(0, .rows (byts cur) 1 5)]) (fun _ => baseA w)
    (fun ⟨k, m, cur⟩ => k ≤ n ∧ cur ++ beL v k = beL v n ∧ m = cur.length ∧ cur.length ≤ n - k) (fun s => s.1) (n, 0, []) [(0, none)] (by decide) (fun s => ⟨rfl, rfl⟩) ⟨Nat.le_refl _, rfl, rfl, Nat.zero_le _⟩ ⟨rfl, ⟨rfl, rfl, rfl, trivial⟩, ⟨rfl, trivial⟩, fun _ _ h => h⟩ ?_
  rintro ⟨k, m, cur⟩ ⟨hk, he, hm, hc⟩
  rcases k with _ | k
  · (repeat' ((conv => whnf) <;> first | (show Wp _ _ _ _ _ _ _; (refine Wp.go tabOk rfl ?_)) | (show @cmpK _ _ _; (first | refine cmp_yes (by omega) ?_ | refine cmp_no (by omega) ?_ | (refine cmp_both ?_ ?_ <;> intro _))) | (show wrapK _ _ _; (refine wrap_i64 (by omega) (by omega) ?_)) | (show leK _ _ _; (refine le_of (by first | exact Nat.le_refl _ | omega) ?_)) | (show roomK _ _ _; (refine room_of (by first | omega | (dsimp only; omega)) ?_)) | (show ltK _ _ _; (refine lt_of (by omega) ?_)) | (show _ ∧ _; (refine ⟨?_, ?_⟩)) | (show keepK _ _ _ _ _; (refine keep_of (by first | exact List.Sublist.refl _ | exact List.Sublist.cons _ (List.Sublist.refl _) | exact List.Sublist.cons _ (List.Sublist.cons _ (List.Sublist.refl _)) | exact List.Sublist.cons _ (List.Sublist.cons _ (List.Sublist.cons _ (List.Sublist.refl _)))) (by first | exact (fun _ _ h => h) | exact (fun _ _ h => h.1) | exact (fun _ _ h => h.1.1)) ?_)) | (show ownK _ _ _ _ _; (refine own_keep ?_))))
    conv => whnf
    rw [show beL v 0 = [] from rfl, List.append_nil] at he
    subst he
    refine fin_of fun ρ w' hw => ⟨(), trivial, _, rfl, ext_of_abs hw (fun _ _ h => h), ?_⟩
    have hh := new_of_abs hw (fun _ _ h => h) List.mem_cons_self
    rw [byts_length, ← hm] at hh
    exact hh
  · (repeat' ((conv => whnf) <;> first | (show wrapK _ _ _; (first | refine wrap_is (8 * (k : Int)) (by omega) (by omega) (by omega) ?_ | refine wrap_is ((k : Int) - 1) (by omega) (by omega) (by omega) ?_ | refine wrap_u64 (by omega) (by omega) ?_)) | (show remK _ _ _; (refine rem_pos (Int.ediv_nonneg hv (Int.le_of_lt (Int.pow_pos (by decide)))) (by decide) ?_)) | (show shiftK _ _ _ _ _; (refine shr_of (z := v / 256 ^ k) (8 * k) (by omega) (by omega) (by rw [pow_8]) ?_)) | (show leK _ _ _; (refine le_of (by rw [byts_length, hm]; exact Nat.le_refl _) ?_)) | (show roomK _ _ _; (refine room_of (by show (m + 1) * 1 ≤ 140737488355328; omega) ?_)) | (show Wp _ _ _ _ _ _ _; (refine Wp.go tabOk rfl ?_)) | (show @cmpK _ _ _; (first | refine cmp_yes (by omega) ?_ | refine cmp_no (by omega) ?_ | (refine cmp_both ?_ ?_ <;> intro _))) | (show wrapK _ _ _; (refine wrap_i64 (by omega) (by omega) ?_)) | (show leK _ _ _; (refine le_of (by first | exact Nat.le_refl _ | omega) ?_)) | (show roomK _ _ _; (refine room_of (by first | omega | (dsimp only; omega)) ?_)) | (show ltK _ _ _; (refine lt_of (by omega) ?_)) | (show _ ∧ _; (refine ⟨?_, ?_⟩)) | (show keepK _ _ _ _ _; (refine keep_of (by first | exact List.Sublist.refl _ | exact List.Sublist.cons _ (List.Sublist.refl _) | exact List.Sublist.cons _ (List.Sublist.cons _ (List.Sublist.refl _)) | exact List.Sublist.cons _ (List.Sublist.cons _ (List.Sublist.cons _ (List.Sublist.refl _)))) (by first | exact (fun _ _ h => h) | exact (fun _ _ h => h.1) | exact (fun _ _ h => h.1.1)) ?_)) | (show ownK _ _ _ _ _; (refine own_keep ?_))))
    refine wrap_u8 (Int.emod_nonneg _ (by decide)) (by have := Int.emod_lt_of_pos (v / 256 ^ k) (show (0 : Int) < 256 by decide); omega) ?_
    (repeat' ((conv => whnf) <;> first | (show wrapK _ _ _; (refine wrap_is ((k : Int) - 1) (by omega) (by omega) (by omega) ?_)) | (show leK _ _ _; (refine le_of (by rw [byts_length, hm]; exact Nat.le_refl _) ?_)) | (show roomK _ _ _; (refine room_of (by show (m + 1) * 1 ≤ 140737488355328; omega) ?_)) | (show Wp _ _ _ _ _ _ _; (refine Wp.go tabOk rfl ?_)) | (show @cmpK _ _ _; (first | refine cmp_yes (by omega) ?_ | refine cmp_no (by omega) ?_ | (refine cmp_both ?_ ?_ <;> intro _))) | (show wrapK _ _ _; (refine wrap_i64 (by omega) (by omega) ?_)) | (show leK _ _ _; (refine le_of (by first | exact Nat.le_refl _ | omega) ?_)) | (show roomK _ _ _; (refine room_of (by first | omega | (dsimp only; omega)) ?_)) | (show ltK _ _ _; (refine lt_of (by omega) ?_)) | (show _ ∧ _; (refine ⟨?_, ?_⟩)) | (show keepK _ _ _ _ _; (refine keep_of (by first | exact List.Sublist.refl _ | exact List.Sublist.cons _ (List.Sublist.refl _) | exact List.Sublist.cons _ (List.Sublist.cons _ (List.Sublist.refl _)) | exact List.Sublist.cons _ (List.Sublist.cons _ (List.Sublist.cons _ (List.Sublist.refl _)))) (by first | exact (fun _ _ h => h) | exact (fun _ _ h => h.1) | exact (fun _ _ h => h.1.1)) ?_)) | (show ownK _ _ _ _ _; (refine own_keep ?_))))
    conv => whnf
    exact ⟨(k, m + 1, cur ++ [v / 256 ^ k % 256]), [(0, some 2)], ⟨by omega, by rw [List.append_assoc]; exact he, by rw [List.length_append, hm]; rfl, by rw [List.length_append, List.length_singleton]; omega⟩, Nat.lt_succ_self k, rfl, ⟨rfl, rfl, rfl, trivial⟩, ⟨byts_snoc _ _ hm, trivial⟩, fun _ _ h => h⟩
theorem bit_any (w : World) (b : Bool) : Calls Try.prog 54 #[.bool b] w fun e w' => e = .returned (.int .u8 (bitI b)) ∧ Ext w w' := by
  cases b with
  | true =>
    refine calls_of tab tabOk Try.func54 rfl rfl rfl [] (fun _ => ⟨none, 0⟩) [.c (.bool true)] [] (baseA w) 0 rfl rfl (by show 1 ≤ _; decide) (abs_base w) ?_
    (repeat' ((conv => whnf) <;> first | (show Wp _ _ _ _ _ _ _; (refine Wp.go tabOk rfl ?_)) | (show @cmpK _ _ _; (first | refine cmp_yes (by omega) ?_ | refine cmp_no (by omega) ?_ | (refine cmp_both ?_ ?_ <;> intro _))) | (show wrapK _ _ _; (refine wrap_i64 (by omega) (by omega) ?_)) | (show leK _ _ _; (refine le_of (by first | exact Nat.le_refl _ | omega) ?_)) | (show roomK _ _ _; (refine room_of (by first | omega | (dsimp only; omega)) ?_)) | (show ltK _ _ _; (refine lt_of (by omega) ?_)) | (show _ ∧ _; (refine ⟨?_, ?_⟩)) | (show keepK _ _ _ _ _; (refine keep_of (by first | exact List.Sublist.refl _ | exact List.Sublist.cons _ (List.Sublist.refl _) | exact List.Sublist.cons _ (List.Sublist.cons _ (List.Sublist.refl _)) | exact List.Sublist.cons _ (List.Sublist.cons _ (List.Sublist.cons _ (List.Sublist.refl _)))) (by first | exact (fun _ _ h => h) | exact (fun _ _ h => h.1) | exact (fun _ _ h => h.1.1)) ?_)) | (show ownK _ _ _ _ _; (refine own_keep ?_))))
    exact ends_of (fun _ _ h => h) (fun _ => rfl) rfl
  | false =>
    refine calls_of tab tabOk Try.func54 rfl rfl rfl [] (fun _ => ⟨none, 0⟩) [.c (.bool false)] [] (baseA w) 0 rfl rfl (by show 1 ≤ _; decide) (abs_base w) ?_
    (repeat' ((conv => whnf) <;> first | (show Wp _ _ _ _ _ _ _; (refine Wp.go tabOk rfl ?_)) | (show @cmpK _ _ _; (first | refine cmp_yes (by omega) ?_ | refine cmp_no (by omega) ?_ | (refine cmp_both ?_ ?_ <;> intro _))) | (show wrapK _ _ _; (refine wrap_i64 (by omega) (by omega) ?_)) | (show leK _ _ _; (refine le_of (by first | exact Nat.le_refl _ | omega) ?_)) | (show roomK _ _ _; (refine room_of (by first | omega | (dsimp only; omega)) ?_)) | (show ltK _ _ _; (refine lt_of (by omega) ?_)) | (show _ ∧ _; (refine ⟨?_, ?_⟩)) | (show keepK _ _ _ _ _; (refine keep_of (by first | exact List.Sublist.refl _ | exact List.Sublist.cons _ (List.Sublist.refl _) | exact List.Sublist.cons _ (List.Sublist.cons _ (List.Sublist.refl _)) | exact List.Sublist.cons _ (List.Sublist.cons _ (List.Sublist.cons _ (List.Sublist.refl _)))) (by first | exact (fun _ _ h => h) | exact (fun _ _ h => h.1) | exact (fun _ _ h => h.1.1)) ?_)) | (show ownK _ _ _ _ _; (refine own_keep ?_))))
    exact ends_of (fun _ _ h => h) (fun _ => rfl) rfl
def OptPost (w : World) (o : OptV) (e : Ending) (w' : World) : Prop :=
  (o.good ∧ ∃ v, e = .returned (.tuple #[v, .int .i64 0]) ∧ Ext w w' ∧ NewRows w w' v 1 5 (byts (optBytes o))) ∨ (¬ o.good ∧ e = .returned (.tuple #[.slice none 0 0, .int .i64 1]) ∧ Ext w w')
theorem opt_bad {B : Base} {v : SV} {H : Heap} {S : Asn} {nx : Nat} {w : World} {o : OptV} (hb : ∀ R w', S.holds R w' → (baseA B.w0).holds R w') (hw0 : B.w0 = w) (hn : ¬ o.good) (hv : ∀ ρ, v.rf ρ = .tuple #[.slice none 0 0, .int .i64 1]) : finK B v H S nx (OptPost w o) := by
  subst hw0
  exact fin_of fun ρ w' hw => .inr ⟨hn, by rw [hv], ext_of_abs hw hb⟩
theorem opt_good {B : Base} {i n : Nat} {bs : List Int} {H : Heap} {S : Asn} {nx : Nat} {w : World} {o : OptV} (hb : ∀ R w', S.holds R w' → (baseA B.w0).holds R w') (hw0 : B.w0 = w) (hg : o.good) (he : (i, Ent.rows (byts bs) 1 5) ∈ H) (hn : n = bs.length) (hbs : bs = optBytes o) : finK B (.tup [.os i n, .c (.int .i64 0)]) H S nx (OptPost w o) := by
  subst hw0 hn hbs
  refine fin_of fun ρ w' hw => .inl ⟨hg, _, rfl, ext_of_abs hw hb, ?_⟩
  have hh := new_of_abs hw hb he
  rw [byts_length] at hh
  exact hh
set_option maxRecDepth 20000 in
theorem refOptions_any (w : World) (o : OptV) : Calls Try.prog 25 #[o.val] w (OptPost w o) := by
  refine calls_of tab tabOk Try.func25 rfl rfl rfl [] (fun _ => ⟨none, 0⟩) [.agg [.c (.int .i64 o.layout), .c (.bool o.tidy), .c (.bool o.lazy_), .c (.bool o.giant), .c (.int .i64 o.rows)]] [] (baseA w) 0 rfl rfl (by show 1 ≤ _; decide) (abs_base w) ?_
  by_cases hg : o.good
  · obtain ⟨h1, h2, h3, h4⟩ := id hg
    (repeat' ((conv => whnf) <;> first | (show wrapK _ _ _; (first | refine wrap_u8 (by omega) (by omega) ?_ | refine wrap_u64 (by omega) (by omega) ?_)) | (show callK _ 54 _ _ _ _ _; (refine call_pure (f := 54) Try.call54 _ (fun ρ w' hw => bit_any w' _) ?_)) | (show callK _ 55 _ _ _ _ _; (refine call_new (f := 55) Try.call55 1 5 (fun _ : Unit => byts (beL o.rows 2)) (fun _ => True) (fun ρ w' hw => num_any w' o.rows 2 (by decide) h3) (fun _ _ => ?_))) | (show roomK _ _ _; (refine room_of (by show (5 + 2) * 1 ≤ 140737488355328; decide) ?_)) | (show drawK _ 3 _ _ _ _ _ _; (refine draw_tree tabOk mixed [] _ (.take 0 (.take 1 (.take 2 (.take 3 (.take 4 (.take 6 (.take 7 (.take 9 (.take 10 (.take 13 (.take 14 (.take 15 (.one 5 (.one 8 (.one 11 (.alt 12 (.one 16 (.one 17 (.take 18 (.take 19 (.done))))) (.one 16 (.one 12 (.one 17 (.take 18 (.take 19 (.done)))))))))))))))))))))) (by kernel_rfl) (by kernel_rfl) (by kernel_rfl) (List.Sublist.refl _) ?_)) | (show Wp _ _ _ _ _ _ _; (refine Wp.go tabOk rfl ?_)) | (show @cmpK _ _ _; (first | refine cmp_yes (by omega) ?_ | refine cmp_no (by omega) ?_ | (refine cmp_both ?_ ?_ <;> intro _))) | (show wrapK _ _ _; (refine wrap_i64 (by omega) (by omega) ?_)) | (show leK _ _ _; (refine le_of (by first | exact Nat.le_refl _ | omega) ?_)) | (show roomK _ _ _; (refine room_of (by first | omega | (dsimp only; omega)) ?_)) | (show ltK _ _ _; (refine lt_of (by omega) ?_)) | (show _ ∧ _; (refine ⟨?_, ?_⟩)) | (show keepK _ _ _ _ _; (refine keep_of (by first | exact List.Sublist.refl _ | exact List.Sublist.cons _ (List.Sublist.refl _) | exact List.Sublist.cons _ (List.Sublist.cons _ (List.Sublist.refl _)) | exact List.Sublist.cons _ (List.Sublist.cons _ (List.Sublist.cons _ (List.Sublist.refl _)))) (by first | exact (fun _ _ h => h) | exact (fun _ _ h => h.1) | exact (fun _ _ h => h.1.1)) ?_)) | (show ownK _ _ _ _ _; (refine own_keep ?_))))
    all_goals (conv => whnf)
    all_goals exact opt_good (bs := optBytes o) (fun _ _ h => h) rfl hg List.mem_cons_self rfl rfl
  · have hg' : ¬ (0 ≤ o.layout ∧ o.layout ≤ 255 ∧ 0 ≤ o.rows ∧ o.rows ≤ 65535) := hg
    (repeat' ((conv => whnf) <;> first | (show drawK _ 3 _ _ _ _ _ _; (refine draw_tree tabOk mixed [] _ (.take 0 (.take 1 (.take 2 (.take 3 (.take 4 (.take 6 (.take 7 (.take 9 (.take 10 (.take 13 (.take 14 (.take 15 (.one 5 (.one 8 (.one 11 (.alt 12 (.one 16 (.one 17 (.take 18 (.take 19 (.done))))) (.one 16 (.one 12 (.one 17 (.take 18 (.take 19 (.done)))))))))))))))))))))) (by kernel_rfl) (by kernel_rfl) (by kernel_rfl) (List.Sublist.refl _) ?_)) | (show Wp _ _ _ _ _ _ _; (refine Wp.go tabOk rfl ?_)) | (show @cmpK _ _ _; (first | refine cmp_yes (by omega) ?_ | refine cmp_no (by omega) ?_ | (refine cmp_both ?_ ?_ <;> intro _))) | (show wrapK _ _ _; (refine wrap_i64 (by omega) (by omega) ?_)) | (show leK _ _ _; (refine le_of (by first | exact Nat.le_refl _ | omega) ?_)) | (show roomK _ _ _; (refine room_of (by first | omega | (dsimp only; omega)) ?_)) | (show ltK _ _ _; (refine lt_of (by omega) ?_)) | (show _ ∧ _; (refine ⟨?_, ?_⟩)) | (show keepK _ _ _ _ _; (refine keep_of (by first | exact List.Sublist.refl _ | exact List.Sublist.cons _ (List.Sublist.refl _) | exact List.Sublist.cons _ (List.Sublist.cons _ (List.Sublist.refl _)) | exact List.Sublist.cons _ (List.Sublist.cons _ (List.Sublist.cons _ (List.Sublist.refl _)))) (by first | exact (fun _ _ h => h) | exact (fun _ _ h => h.1) | exact (fun _ _ h => h.1.1)) ?_)) | (show ownK _ _ _ _ _; (refine own_keep ?_))))
    all_goals first | omega | exact opt_bad (fun _ _ h => h) rfl hg (fun _ => rfl)
set_option maxRecDepth 20000 in
theorem options_any (w : World) (o : OptV) : Calls Try.prog 24 #[o.val] w (OptPost w o) := by
  refine calls_of tab tabOk Try.func24 rfl rfl rfl [] (fun _ => ⟨none, 0⟩) [.agg [.c (.int .i64 o.layout), .c (.bool o.tidy), .c (.bool o.lazy_), .c (.bool o.giant), .c (.int .i64 o.rows)]] [] (baseA w) 0 rfl rfl (by show 1 ≤ _; decide) (abs_base w) ?_
  by_cases hg : o.good
  · obtain ⟨h1, h2, h3, h4⟩ := id hg
    (repeat' ((conv => whnf) <;> first | (show wrapK _ _ _; (first | refine wrap_u8 (by omega) (by omega) ?_)) | (show Wp _ _ _ _ _ _ _; (refine Wp.go tabOk rfl ?_)) | (show @cmpK _ _ _; (first | refine cmp_yes (by omega) ?_ | refine cmp_no (by omega) ?_ | (refine cmp_both ?_ ?_ <;> intro _))) | (show wrapK _ _ _; (refine wrap_i64 (by omega) (by omega) ?_)) | (show leK _ _ _; (refine le_of (by first | exact Nat.le_refl _ | omega) ?_)) | (show roomK _ _ _; (refine room_of (by first | omega | (dsimp only; omega)) ?_)) | (show ltK _ _ _; (refine lt_of (by omega) ?_)) | (show _ ∧ _; (refine ⟨?_, ?_⟩)) | (show keepK _ _ _ _ _; (refine keep_of (by first | exact List.Sublist.refl _ | exact List.Sublist.cons _ (List.Sublist.refl _) | exact List.Sublist.cons _ (List.Sublist.cons _ (List.Sublist.refl _)) | exact List.Sublist.cons _ (List.Sublist.cons _ (List.Sublist.cons _ (List.Sublist.refl _)))) (by first | exact (fun _ _ h => h) | exact (fun _ _ h => h.1) | exact (fun _ _ h => h.1.1)) ?_)) | (show ownK _ _ _ _ _; (refine own_keep ?_))))
    refine Wp.pack 2 1 (T := 86) (TE := 5) (k := 1) (n := 2) (xs := byts [7, o.layout]) (by repeat (first | exact List.mem_cons_self | apply List.mem_cons_of_mem)) (by repeat (first | exact List.mem_cons_self | apply List.mem_cons_of_mem)) rfl (by decide) ?_
    refine Wp.rounds 4 ?_
    (repeat' ((conv => whnf) <;> first | (show idxRowK _ _ _ _ _ _; (first | refine idxRow_of 0 (by omega) (Nat.le_of_ble_eq_true rfl) (Nat.le_of_ble_eq_true rfl) ?_ | refine idxRow_of 1 (by omega) (Nat.le_of_ble_eq_true rfl) (Nat.le_of_ble_eq_true rfl) ?_ | refine idxRow_of 2 (by omega) (Nat.le_of_ble_eq_true rfl) (Nat.le_of_ble_eq_true rfl) ?_)) | (show rowK _ _ _ _; (refine row_of _ _ rfl rfl ?_)) | (show callK _ 52 _ _ _ _ _; (refine call_wr (i := 2) [.bool _] _ (by repeat (first | exact List.mem_cons_self | apply List.mem_cons_of_mem)) Try.call52 (fun w b F h => wtruth_any w b F _ _ (by exact Nat.le_of_ble_eq_true rfl) h) ?_)) | (show Wp _ _ _ _ _ _ _; (refine Wp.go tabOk rfl ?_)) | (show @cmpK _ _ _; (first | refine cmp_yes (by omega) ?_ | refine cmp_no (by omega) ?_ | (refine cmp_both ?_ ?_ <;> intro _))) | (show wrapK _ _ _; (refine wrap_i64 (by omega) (by omega) ?_)) | (show leK _ _ _; (refine le_of (by first | exact Nat.le_refl _ | omega) ?_)) | (show roomK _ _ _; (refine room_of (by first | omega | (dsimp only; omega)) ?_)) | (show ltK _ _ _; (refine lt_of (by omega) ?_)) | (show _ ∧ _; (refine ⟨?_, ?_⟩)) | (show keepK _ _ _ _ _; (refine keep_of (by first | exact List.Sublist.refl _ | exact List.Sublist.cons _ (List.Sublist.refl _) | exact List.Sublist.cons _ (List.Sublist.cons _ (List.Sublist.refl _)) | exact List.Sublist.cons _ (List.Sublist.cons _ (List.Sublist.cons _ (List.Sublist.refl _)))) (by first | exact (fun _ _ h => h) | exact (fun _ _ h => h.1) | exact (fun _ _ h => h.1.1)) ?_)) | (show ownK _ _ _ _ _; (refine own_keep ?_))))
    refine call_wr (i := 2) [.int .i64 o.rows] _ (by repeat (first | exact List.mem_cons_self | apply List.mem_cons_of_mem)) Try.call53 (fun w b F h => wtwo_any w b F _ _ (by exact Nat.le_of_ble_eq_true rfl) h) ?_
    (repeat' ((conv => whnf) <;> first | (show @cmpK _ _ _; (first | refine cmp_yes (by omega) ?_ | refine cmp_no (by omega) ?_ | (refine cmp_both ?_ ?_ <;> intro _))) | (show wrapK _ _ _; (refine wrap_i64 (by omega) (by omega) ?_)) | (show leK _ _ _; (refine le_of (by first | exact Nat.le_refl _ | omega) ?_)) | (show roomK _ _ _; (refine room_of (by first | omega | (dsimp only; omega)) ?_)) | (show ltK _ _ _; (refine lt_of (by omega) ?_)) | (show _ ∧ _; (refine ⟨?_, ?_⟩)) | (show keepK _ _ _ _ _; (refine keep_of (by first | exact List.Sublist.refl _ | exact List.Sublist.cons _ (List.Sublist.refl _) | exact List.Sublist.cons _ (List.Sublist.cons _ (List.Sublist.refl _)) | exact List.Sublist.cons _ (List.Sublist.cons _ (List.Sublist.cons _ (List.Sublist.refl _)))) (by first | exact (fun _ _ h => h) | exact (fun _ _ h => h.1) | exact (fun _ _ h => h.1.1)) ?_)) | (show ownK _ _ _ _ _; (refine own_keep ?_))))
    refine Wp.unpack 2 (by repeat (first | exact List.mem_cons_self | apply List.mem_cons_of_mem)) ?_
    (repeat' ((conv => whnf) <;> first | (show Wp _ _ _ _ _ _ _; (refine Wp.go tabOk rfl ?_)) | (show @cmpK _ _ _; (first | refine cmp_yes (by omega) ?_ | refine cmp_no (by omega) ?_ | (refine cmp_both ?_ ?_ <;> intro _))) | (show wrapK _ _ _; (refine wrap_i64 (by omega) (by omega) ?_)) | (show leK _ _ _; (refine le_of (by first | exact Nat.le_refl _ | omega) ?_)) | (show roomK _ _ _; (refine room_of (by first | omega | (dsimp only; omega)) ?_)) | (show ltK _ _ _; (refine lt_of (by omega) ?_)) | (show _ ∧ _; (refine ⟨?_, ?_⟩)) | (show keepK _ _ _ _ _; (refine keep_of (by first | exact List.Sublist.refl _ | exact List.Sublist.cons _ (List.Sublist.refl _) | exact List.Sublist.cons _ (List.Sublist.cons _ (List.Sublist.refl _)) | exact List.Sublist.cons _ (List.Sublist.cons _ (List.Sublist.cons _ (List.Sublist.refl _)))) (by first | exact (fun _ _ h => h) | exact (fun _ _ h => h.1) | exact (fun _ _ h => h.1.1)) ?_)) | (show ownK _ _ _ _ _; (refine own_keep ?_))))
    conv => whnf
    exact opt_good (bs := optBytes o) (fun _ _ h => h) rfl hg List.mem_cons_self rfl rfl
  · have hg' : ¬ (0 ≤ o.layout ∧ o.layout ≤ 255 ∧ 0 ≤ o.rows ∧ o.rows ≤ 65535) := hg
    (repeat' ((conv => whnf) <;> first | (show Wp _ _ _ _ _ _ _; (refine Wp.go tabOk rfl ?_)) | (show @cmpK _ _ _; (first | refine cmp_yes (by omega) ?_ | refine cmp_no (by omega) ?_ | (refine cmp_both ?_ ?_ <;> intro _))) | (show wrapK _ _ _; (refine wrap_i64 (by omega) (by omega) ?_)) | (show leK _ _ _; (refine le_of (by first | exact Nat.le_refl _ | omega) ?_)) | (show roomK _ _ _; (refine room_of (by first | omega | (dsimp only; omega)) ?_)) | (show ltK _ _ _; (refine lt_of (by omega) ?_)) | (show _ ∧ _; (refine ⟨?_, ?_⟩)) | (show keepK _ _ _ _ _; (refine keep_of (by first | exact List.Sublist.refl _ | exact List.Sublist.cons _ (List.Sublist.refl _) | exact List.Sublist.cons _ (List.Sublist.cons _ (List.Sublist.refl _)) | exact List.Sublist.cons _ (List.Sublist.cons _ (List.Sublist.cons _ (List.Sublist.refl _)))) (by first | exact (fun _ _ h => h) | exact (fun _ _ h => h.1) | exact (fun _ _ h => h.1.1)) ?_)) | (show ownK _ _ _ _ _; (refine own_keep ?_))))
    all_goals first | omega | exact opt_bad (fun _ _ h => h) rfl hg (fun _ => rfl)
end Go.Proofs.Ytajbngkcgbehlaa
/- SC -/
namespace Go.Proofs.Ytajbngkcgbehlaa
open Go.SX Go.RowKit
theorem rdFail_no (y : Bool) (c : Int) (bs : List Int) {e : Int} (h : e ≠ 0) : rdFail y c (bs, e) = (bs, e) := by
  unfold rdFail; rw [if_neg (fun h' => h h'.2)]
theorem rdFail_false (c : Int) (bs : List Int) (e : Int) : rdFail false c (bs, e) = (bs, e) := by
  unfold rdFail; rw [if_neg (fun h' => by cases h'.1)]
theorem rdFail_true (c : Int) (bs : List Int) : rdFail true c (bs, 0) = (bs, c) := by
  unfold rdFail; rw [if_pos ⟨rfl, rfl⟩]
theorem fail_any (w : World) (b : Nat) (u : RdV) (e : Int) (y : Bool) (c : Int) (h : RdOk 125 w b u e) : Calls Try.prog 97 #[.pointer (some ⟨b, 0, none⟩), .bool y, .int .i64 c] w (RdPost 125 w b u (fun _ : Unit => .tuple #[]) ((), rdFail y c (u.bs, e))) := by
  obtain ⟨hs, hby, hrm, hd, hb⟩ := h
  cases y with
  | false =>
    rw [rdFail_false]
    refine calls_of tab tabOk Try.func97 rfl rfl rfl [(0, boxL b)] (fun _ => boxL b) [.lp 0 0 0 0, .c (.bool false), .c (.int .i64 c)] _ (restA w b) 1 (by simp [SV.rfs, SV.rf, boxL, add_none]) rfl (by show 3 ≤ _; decide) (abs_box hb) ?_
    (repeat' ((conv => whnf) <;> first | (show Wp _ _ _ _ _ _ _; (refine Wp.go tabOk rfl ?_)) | (show @cmpK _ _ _; (first | refine cmp_yes (by omega) ?_ | refine cmp_no (by omega) ?_ | (refine cmp_both ?_ ?_ <;> intro _))) | (show wrapK _ _ _; (refine wrap_i64 (by omega) (by omega) ?_)) | (show leK _ _ _; (refine le_of (by first | exact Nat.le_refl _ | omega) ?_)) | (show roomK _ _ _; (refine room_of (by first | omega | (dsimp only; omega)) ?_)) | (show ltK _ _ _; (refine lt_of (by omega) ?_)) | (show _ ∧ _; (refine ⟨?_, ?_⟩)) | (show keepK _ _ _ _ _; (refine keep_of (by first | exact List.Sublist.refl _ | exact List.Sublist.cons _ (List.Sublist.refl _) | exact List.Sublist.cons _ (List.Sublist.cons _ (List.Sublist.refl _)) | exact List.Sublist.cons _ (List.Sublist.cons _ (List.Sublist.cons _ (List.Sublist.refl _)))) (by first | exact (fun _ _ h => h) | exact (fun _ _ h => h.1) | exact (fun _ _ h => h.1.1)) ?_)) | (show ownK _ _ _ _ _; (refine own_keep ?_))))
    all_goals (conv => whnf)
    all_goals exact rd_ends u (SX.Rest.refl hrm) rfl (fun _ => rfl) List.mem_cons_self (fun _ _ h => h)
  | true =>
    by_cases he : e = 0
    · subst he
      rw [rdFail_true]
      refine calls_of tab tabOk Try.func97 rfl rfl rfl [(0, boxL b)] (fun _ => boxL b) [.lp 0 0 0 0, .c (.bool true), .c (.int .i64 c)] _ (restA w b) 1 (by simp [SV.rfs, SV.rf, boxL, add_none]) rfl (by show 3 ≤ _; decide) (abs_box hb) ?_
      (repeat' ((conv => whnf) <;> first | (show Wp _ _ _ _ _ _ _; (refine Wp.go tabOk rfl ?_)) | (show @cmpK _ _ _; (first | refine cmp_yes (by omega) ?_ | refine cmp_no (by omega) ?_ | (refine cmp_both ?_ ?_ <;> intro _))) | (show wrapK _ _ _; (refine wrap_i64 (by omega) (by omega) ?_)) | (show leK _ _ _; (refine le_of (by first | exact Nat.le_refl _ | omega) ?_)) | (show roomK _ _ _; (refine room_of (by first | omega | (dsimp only; omega)) ?_)) | (show ltK _ _ _; (refine lt_of (by omega) ?_)) | (show _ ∧ _; (refine ⟨?_, ?_⟩)) | (show keepK _ _ _ _ _; (refine keep_of (by first | exact List.Sublist.refl _ | exact List.Sublist.cons _ (List.Sublist.refl _) | exact List.Sublist.cons _ (List.Sublist.cons _ (List.Sublist.refl _)) | exact List.Sublist.cons _ (List.Sublist.cons _ (List.Sublist.cons _ (List.Sublist.refl _)))) (by first | exact (fun _ _ h => h) | exact (fun _ _ h => h.1) | exact (fun _ _ h => h.1.1)) ?_)) | (show ownK _ _ _ _ _; (refine own_keep ?_))))
      all_goals (conv => whnf)
      all_goals exact rd_ends u (SX.Rest.refl hrm) rfl (fun _ => rfl) List.mem_cons_self (fun _ _ h => h)
    · rw [rdFail_no _ _ _ he]
      refine calls_of tab tabOk Try.func97 rfl rfl rfl [(0, boxL b)] (fun _ => boxL b) [.lp 0 0 0 0, .c (.bool true), .c (.int .i64 c)] _ (restA w b) 1 (by simp [SV.rfs, SV.rf, boxL, add_none]) rfl (by show 3 ≤ _; decide) (abs_box hb) ?_
      (repeat' ((conv => whnf) <;> first | (show Wp _ _ _ _ _ _ _; (refine Wp.go tabOk rfl ?_)) | (show @cmpK _ _ _; (first | refine cmp_yes (by omega) ?_ | refine cmp_no (by omega) ?_ | (refine cmp_both ?_ ?_ <;> intro _))) | (show wrapK _ _ _; (refine wrap_i64 (by omega) (by omega) ?_)) | (show leK _ _ _; (refine le_of (by first | exact Nat.le_refl _ | omega) ?_)) | (show roomK _ _ _; (refine room_of (by first | omega | (dsimp only; omega)) ?_)) | (show ltK _ _ _; (refine lt_of (by omega) ?_)) | (show _ ∧ _; (refine ⟨?_, ?_⟩)) | (show keepK _ _ _ _ _; (refine keep_of (by first | exact List.Sublist.refl _ | exact List.Sublist.cons _ (List.Sublist.refl _) | exact List.Sublist.cons _ (List.Sublist.cons _ (List.Sublist.refl _)) | exact List.Sublist.cons _ (List.Sublist.cons _ (List.Sublist.cons _ (List.Sublist.refl _)))) (by first | exact (fun _ _ h => h) | exact (fun _ _ h => h.1) | exact (fun _ _ h => h.1.1)) ?_)) | (show ownK _ _ _ _ _; (refine own_keep ?_))))
      all_goals (conv => whnf)
      all_goals exact rd_ends u (SX.Rest.refl hrm) rfl (fun _ => rfl) List.mem_cons_self (fun _ _ h => h)
theorem call_fail {B : Base} {m i : Nat} {H : Heap} {S : Asn} {nx : Nat} {K : SV → Heap → Asn → Nat → Prop} {u : RdV} {e : Int} {y : Bool} {c : Int} (hi : (i, Ent.box (cs (rcells u e)) 125) ∈ H) (hsm : u.bs.length ≤ 1000000) (hby : ∀ x ∈ u.bs, 0 ≤ x ∧ x ≤ 255) (hrm : u.bs.length ≤ u.cap) (hS : ∀ R w', S.holds R w' → (bytsD u).holds R w')
    (h : ∀ u', SX.Rest u u' → u'.bs = u.bs → K (.c (.tuple #[])) (setH i (.box (cs (rcells u' (rdFail y c (u.bs, e)).2)) 125) H) S nx) : callK ⟨Try.prog, B, m, tab⟩ 97 [.lp i 0 0 0, .c (.bool y), .c (.int .i64 c)] H S nx K :=
  call_rd (fun p => [p, .bool y, .int .i64 c]) (fun ρ b hb => by simp [SV.rfs, SV.rf, hb, add_none]) (fun _ : Unit => .tuple #[]) _ hi Try.call97 hsm hby hrm hS (fun w' b' h => fail_any w' b' u e y c h) h
theorem rfail_any (w : World) (b : Nat) (u : RdV) (e : Int) (y : Bool) (c : Int) (h : RdOk 100 w b u e) : Calls Try.prog 64 #[.pointer (some ⟨b, 0, none⟩), .bool y, .int .i64 c] w (RdPost 100 w b u (fun _ : Unit => .tuple #[]) ((), rdFail y c (u.bs, e))) := by
  obtain ⟨hs, hby, hrm, hd, hb⟩ := h
  cases y with
  | false =>
    rw [rdFail_false]
    refine calls_of tab tabOk Try.func64 rfl rfl rfl [(0, boxL b)] (fun _ => boxL b) [.lp 0 0 0 0, .c (.bool false), .c (.int .i64 c)] _ (restA w b) 1 (by simp [SV.rfs, SV.rf, boxL, add_none]) rfl (by show 3 ≤ _; decide) (abs_box hb) ?_
    (repeat' ((conv => whnf) <;> first | (show Wp _ _ _ _ _ _ _; (refine Wp.go tabOk rfl ?_)) | (show @cmpK _ _ _; (first | refine cmp_yes (by omega) ?_ | refine cmp_no (by omega) ?_ | (refine cmp_both ?_ ?_ <;> intro _))) | (show wrapK _ _ _; (refine wrap_i64 (by omega) (by omega) ?_)) | (show leK _ _ _; (refine le_of (by first | exact Nat.le_refl _ | omega) ?_)) | (show roomK _ _ _; (refine room_of (by first | omega | (dsimp only; omega)) ?_)) | (show ltK _ _ _; (refine lt_of (by omega) ?_)) | (show _ ∧ _; (refine ⟨?_, ?_⟩)) | (show keepK _ _ _ _ _; (refine keep_of (by first | exact List.Sublist.refl _ | exact List.Sublist.cons _ (List.Sublist.refl _) | exact List.Sublist.cons _ (List.Sublist.cons _ (List.Sublist.refl _)) | exact List.Sublist.cons _ (List.Sublist.cons _ (List.Sublist.cons _ (List.Sublist.refl _)))) (by first | exact (fun _ _ h => h) | exact (fun _ _ h => h.1) | exact (fun _ _ h => h.1.1)) ?_)) | (show ownK _ _ _ _ _; (refine own_keep ?_))))
    all_goals (conv => whnf)
    all_goals exact rd_ends u (SX.Rest.refl hrm) rfl (fun _ => rfl) List.mem_cons_self (fun _ _ h => h)
  | true =>
    by_cases he : e = 0
    · subst he
      rw [rdFail_true]
      refine calls_of tab tabOk Try.func64 rfl rfl rfl [(0, boxL b)] (fun _ => boxL b) [.lp 0 0 0 0, .c (.bool true), .c (.int .i64 c)] _ (restA w b) 1 (by simp [SV.rfs, SV.rf, boxL, add_none]) rfl (by show 3 ≤ _; decide) (abs_box hb) ?_
      (repeat' ((conv => whnf) <;> first | (show Wp _ _ _ _ _ _ _; (refine Wp.go tabOk rfl ?_)) | (show @cmpK _ _ _; (first | refine cmp_yes (by omega) ?_ | refine cmp_no (by omega) ?_ | (refine cmp_both ?_ ?_ <;> intro _))) | (show wrapK _ _ _; (refine wrap_i64 (by omega) (by omega) ?_)) | (show leK _ _ _; (refine le_of (by first | exact Nat.le_refl _ | omega) ?_)) | (show roomK _ _ _; (refine room_of (by first | omega | (dsimp only; omega)) ?_)) | (show ltK _ _ _; (refine lt_of (by omega) ?_)) | (show _ ∧ _; (refine ⟨?_, ?_⟩)) | (show keepK _ _ _ _ _; (refine keep_of (by first | exact List.Sublist.refl _ | exact List.Sublist.cons _ (List.Sublist.refl _) | exact List.Sublist.cons _ (List.Sublist.cons _ (List.Sublist.refl _)) | exact List.Sublist.cons _ (List.Sublist.cons _ (List.Sublist.cons _ (List.Sublist.refl _)))) (by first | exact (fun _ _ h => h) | exact (fun _ _ h => h.1) | exact (fun _ _ h => h.1.1)) ?_)) | (show ownK _ _ _ _ _; (refine own_keep ?_))))
      all_goals (conv => whnf)
      all_goals exact rd_ends u (SX.Rest.refl hrm) rfl (fun _ => rfl) List.mem_cons_self (fun _ _ h => h)
    · rw [rdFail_no _ _ _ he]
      refine calls_of tab tabOk Try.func64 rfl rfl rfl [(0, boxL b)] (fun _ => boxL b) [.lp 0 0 0 0, .c (.bool true), .c (.int .i64 c)] _ (restA w b) 1 (by simp [SV.rfs, SV.rf, boxL, add_none]) rfl (by show 3 ≤ _; decide) (abs_box hb) ?_
      (repeat' ((conv => whnf) <;> first | (show Wp _ _ _ _ _ _ _; (refine Wp.go tabOk rfl ?_)) | (show @cmpK _ _ _; (first | refine cmp_yes (by omega) ?_ | refine cmp_no (by omega) ?_ | (refine cmp_both ?_ ?_ <;> intro _))) | (show wrapK _ _ _; (refine wrap_i64 (by omega) (by omega) ?_)) | (show leK _ _ _; (refine le_of (by first | exact Nat.le_refl _ | omega) ?_)) | (show roomK _ _ _; (refine room_of (by first | omega | (dsimp only; omega)) ?_)) | (show ltK _ _ _; (refine lt_of (by omega) ?_)) | (show _ ∧ _; (refine ⟨?_, ?_⟩)) | (show keepK _ _ _ _ _; (refine keep_of (by first | exact List.Sublist.refl _ | exact List.Sublist.cons _ (List.Sublist.refl _) | exact List.Sublist.cons _ (List.Sublist.cons _ (List.Sublist.refl _)) | exact List.Sublist.cons _ (List.Sublist.cons _ (List.Sublist.cons _ (List.Sublist.refl _)))) (by first | exact (fun _ _ h => h) | exact (fun _ _ h => h.1) | exact (fun _ _ h => h.1.1)) ?_)) | (show ownK _ _ _ _ _; (refine own_keep ?_))))
      all_goals (conv => whnf)
      all_goals exact rd_ends u (SX.Rest.refl hrm) rfl (fun _ => rfl) List.mem_cons_self (fun _ _ h => h)
theorem call_rfail {B : Base} {m i : Nat} {H : Heap} {S : Asn} {nx : Nat} {K : SV → Heap → Asn → Nat → Prop} {u : RdV} {e : Int} {y : Bool} {c : Int} (hi : (i, Ent.box (cs (rcells u e)) 100) ∈ H) (hsm : u.bs.length ≤ 1000000) (hby : ∀ x ∈ u.bs, 0 ≤ x ∧ x ≤ 255) (hrm : u.bs.length ≤ u.cap) (hS : ∀ R w', S.holds R w' → (bytsD u).holds R w')
    (h : ∀ u', SX.Rest u u' → u'.bs = u.bs → K (.c (.tuple #[])) (setH i (.box (cs (rcells u' (rdFail y c (u.bs, e)).2)) 100) H) S nx) : callK ⟨Try.prog, B, m, tab⟩ 64 [.lp i 0 0 0, .c (.bool y), .c (.int .i64 c)] H S nx K :=
  call_rd (fun p => [p, .bool y, .int .i64 c]) (fun ρ b hb => by simp [SV.rfs, SV.rf, hb, add_none]) (fun _ : Unit => .tuple #[]) _ hi Try.call64 hsm hby hrm hS (fun w' b' h => rfail_any w' b' u e y c h) h
theorem pow_le3 {j : Nat} (h : j ≤ 3) : (256 : Int) ^ j ≤ 16777216 := by
  have : j = 0 ∨ j = 1 ∨ j = 2 ∨ j = 3 := by omega
  rcases this with rfl | rfl | rfl | rfl <;> decide
theorem take_snoc {bs : List Int} {j : Nat} (h : j < bs.length) : bs.take (j + 1) = bs.take j ++ [bs[j]] := List.take_succ_eq_append_getElem h
set_option maxRecDepth 20000 in
theorem number_any (w : World) (b : Nat) (u : RdV) (e : Int) (n : Nat) (hn : n ≤ 4) (h : RdOk 125 w b u e) : Calls Try.prog 98 #[.pointer (some ⟨b, 0, none⟩), .int .i64 n] w (RdPost 125 w b u (fun x : Int => .int .u64 x) (rdNum n (u.bs, e))) := by
  have h' := h
  obtain ⟨hs, hby, hrm, hd, hb⟩ := h
  by_cases he : e = 0
  case neg =>
    have hf1 : (rdFail true 2 (u.bs, e)).2 = e := by rw [rdFail_no _ _ _ he]
    have hf2 : (rdFail false 2 (u.bs, e)).2 = e := by rw [rdFail_no _ _ _ he]
    have hN : rdNum n (u.bs, e) = (0, u.bs, e) := by unfold rdNum; rw [if_pos he]
    rw [hN]
    refine calls_of tab tabOk Try.func98 rfl rfl rfl [(0, boxL b)] (fun _ => boxL b) [.lp 0 0 0 0, .c (.int .i64 n)] _ (restA w b) 1 (by simp [SV.rfs, SV.rf, boxL, add_none]) rfl (by show 2 ≤ _; decide) (abs_box hb) ?_
    by_cases hlen : u.bs.length < n
    all_goals
      (repeat' ((conv => whnf) <;> first | (show callK _ 97 _ _ _ _ _; (refine call_fail List.mem_cons_self hs hby hrm (fun R w' h => rest_holds hd h) (fun u' hr hbs => ?_))) | (show Wp _ _ _ _ _ _ _; (refine Wp.go tabOk rfl ?_)) | (show @cmpK _ _ _; (first | refine cmp_yes (by omega) ?_ | refine cmp_no (by omega) ?_ | (refine cmp_both ?_ ?_ <;> intro _))) | (show wrapK _ _ _; (refine wrap_i64 (by omega) (by omega) ?_)) | (show leK _ _ _; (refine le_of (by first | exact Nat.le_refl _ | omega) ?_)) | (show roomK _ _ _; (refine room_of (by first | omega | (dsimp only; omega)) ?_)) | (show ltK _ _ _; (refine lt_of (by omega) ?_)) | (show _ ∧ _; (refine ⟨?_, ?_⟩)) | (show keepK _ _ _ _ _; (refine keep_of (by first | exact List.Sublist.refl _ | exact List.Sublist.cons _ (List.Sublist.refl _) | exact List.Sublist.cons _ (List.Sublist.cons _ (List.Sublist.refl _)) | exact List.Sublist.cons _ (List.Sublist.cons _ (List.Sublist.cons _ (List.Sublist.refl _)))) (by first | exact (fun _ _ h => h) | exact (fun _ _ h => h.1) | exact (fun _ _ h => h.1.1)) ?_)) | (show ownK _ _ _ _ _; (refine own_keep ?_))))
    all_goals (conv => whnf)
    · rw [hf1]
      exact rd_ends _ (by assumption) (by assumption) (fun _ => rfl) List.mem_cons_self (fun _ _ h => h)
    · rw [hf2]
      exact rd_ends _ (by assumption) (by assumption) (fun _ => rfl) List.mem_cons_self (fun _ _ h => h)
  subst he
  by_cases hlen : u.bs.length < n
  · have hf1 : (rdFail true 2 (u.bs, 0)).2 = 2 := by rw [rdFail_true]
    have hN : rdNum n (u.bs, 0) = (0, u.bs, 2) := by unfold rdNum; rw [if_neg (by simp), if_pos hlen]
    rw [hN]
    refine calls_of tab tabOk Try.func98 rfl rfl rfl [(0, boxL b)] (fun _ => boxL b) [.lp 0 0 0 0, .c (.int .i64 n)] _ (restA w b) 1 (by simp [SV.rfs, SV.rf, boxL, add_none]) rfl (by show 2 ≤ _; decide) (abs_box hb) ?_
    (repeat' ((conv => whnf) <;> first | (show callK _ 97 _ _ _ _ _; (refine call_fail List.mem_cons_self hs hby hrm (fun R w' h => rest_holds hd h) (fun u' hr hbs => ?_))) | (show Wp _ _ _ _ _ _ _; (refine Wp.go tabOk rfl ?_)) | (show @cmpK _ _ _; (first | refine cmp_yes (by omega) ?_ | refine cmp_no (by omega) ?_ | (refine cmp_both ?_ ?_ <;> intro _))) | (show wrapK _ _ _; (refine wrap_i64 (by omega) (by omega) ?_)) | (show leK _ _ _; (refine le_of (by first | exact Nat.le_refl _ | omega) ?_)) | (show roomK _ _ _; (refine room_of (by first | omega | (dsimp only; omega)) ?_)) | (show ltK _ _ _; (refine lt_of (by omega) ?_)) | (show _ ∧ _; (refine ⟨?_, ?_⟩)) | (show keepK _ _ _ _ _; (refine keep_of (by first | exact List.Sublist.refl _ | exact List.Sublist.cons _ (List.Sublist.refl _) | exact List.Sublist.cons _ (List.Sublist.cons _ (List.Sublist.refl _)) | exact List.Sublist.cons _ (List.Sublist.cons _ (List.Sublist.cons _ (List.Sublist.refl _)))) (by first | exact (fun _ _ h => h) | exact (fun _ _ h => h.1) | exact (fun _ _ h => h.1.1)) ?_)) | (show ownK _ _ _ _ _; (refine own_keep ?_))))
    conv => whnf
    rw [hf1]
    exact rd_ends _ (by assumption) (by assumption) (fun _ => rfl) List.mem_cons_self (fun _ _ h => h)
  have hf2 : (rdFail false 2 (u.bs, 0)).2 = 0 := by rw [rdFail_false]
  have hN : rdNum n (u.bs, 0) = (valB (u.bs.take n), u.bs.drop n, 0) := by unfold rdNum; rw [if_neg (by simp), if_neg hlen]
  rw [hN]
  refine calls_of tab tabOk Try.func98 rfl rfl rfl [(0, boxL b)] (fun _ => boxL b) [.lp 0 0 0 0, .c (.int .i64 n)] _ (restA w b) 1 (by simp [SV.rfs, SV.rf, boxL, add_none]) rfl (by show 2 ≤ _; decide) (abs_box hb) ?_
  (repeat' ((conv => whnf) <;> first | (show callK _ 97 _ _ _ _ _; (refine call_fail List.mem_cons_self hs hby hrm (fun R w' h => rest_holds hd h) (fun u' hr hbs => ?_))) | (show sliceK _ _ _ _ _ _ _ _; (refine slice_first rfl (by rw [hbs]; omega) (by first | exact hr.room | omega) ?_)) | (show Wp _ _ _ _ _ _ _; (refine Wp.go tabOk rfl ?_)) | (show @cmpK _ _ _; (first | refine cmp_yes (by omega) ?_ | refine cmp_no (by omega) ?_ | (refine cmp_both ?_ ?_ <;> intro _))) | (show wrapK _ _ _; (refine wrap_i64 (by omega) (by omega) ?_)) | (show leK _ _ _; (refine le_of (by first | exact Nat.le_refl _ | omega) ?_)) | (show roomK _ _ _; (refine room_of (by first | omega | (dsimp only; omega)) ?_)) | (show ltK _ _ _; (refine lt_of (by omega) ?_)) | (show _ ∧ _; (refine ⟨?_, ?_⟩)) | (show keepK _ _ _ _ _; (refine keep_of (by first | exact List.Sublist.refl _ | exact List.Sublist.cons _ (List.Sublist.refl _) | exact List.Sublist.cons _ (List.Sublist.cons _ (List.Sublist.refl _)) | exact List.Sublist.cons _ (List.Sublist.cons _ (List.Sublist.cons _ (List.Sublist.refl _)))) (by first | exact (fun _ _ h => h) | exact (fun _ _ h => h.1) | exact (fun _ _ h => h.1.1)) ?_)) | (show ownK _ _ _ _ _; (refine own_keep ?_))))
  rw [hf2]
  have hl' : u'.bs.length = u.bs.length := by rw [hbs]
  have hD : ∀ R w', (restA w b).holds R w' → (bytsD u').holds R w' := fun R w' h => hr.data R w' (rest_holds hd h)
  refine Wp.loop (σ := Nat × Int) 1 (fun ⟨j, acc⟩ => [(0, .lp 0 0 0 0), (1, .c (.int .i64 n)), (5, .c (.int .u64 acc)), (27, .c (.slice u'.base n u'.cap)), (28, .c (.int .i64 n)), (29, .c (.int .i64 j))]) (fun _ => [(0, .box (cs (rcells u' 0)) 125)]) (fun _ => restA w b)
    (fun ⟨j, acc⟩ => j ≤ n ∧ acc = valB (u'.bs.take j) ∧ 0 ≤ acc ∧ acc < 256 ^ j) (fun s => n - s.1) (0, 0) [] (by decide) (fun s => ⟨rfl, rfl⟩) ⟨Nat.zero_le _, rfl, Int.le_refl _, by decide⟩ ⟨rfl, ⟨rfl, rfl, rfl, rfl, rfl, rfl, trivial⟩, ⟨List.mem_cons_self, trivial⟩, fun _ _ h => h⟩ ?_
  rintro ⟨j, acc⟩ ⟨hj, ha, h0, h1⟩
  by_cases hlt : j < n
  · have hjl : j < u'.bs.length := by omega
    have hx := hr.bytes hby _ (List.getElem_mem hjl)
    have hp := pow_le3 (show j ≤ 3 by omega)
    have hpow : (256 : Int) ^ (j + 1) = 256 ^ j * 256 := Int.pow_succ 256 j
    refine Wp.know (p := ∃ a, u'.base = some a) (fun ρ w' hw => (holds_of_abs hw fun R h => base_some (j := j) (rowsA_in (hD R w' h)) (by rw [byts_length]; exact hjl))) ?_
    rintro ⟨a, hba⟩
    have hrow : ∀ R w', (restA w b).holds R w' → RowsI w' (some a) 1 (byts u'.bs) := fun R w' h => hba ▸ rowsA_in (hD R w' h)
    have hget := byts_get hjl
    have hsn := take_snoc hjl
    generalize u'.bs[j] = x at *
    rw [hba]
    (repeat' ((conv => whnf) <;> first | (show idxK _ _ _ _ _; (refine idx_of a j rfl rfl hlt ?_)) | (show roK _ _ _; (refine ro_row0 hrow _ _ hget rfl ?_)) | (show shiftK _ _ _ _ _; (refine shl_of (z := acc * 256) 8 rfl (by decide) rfl (by omega) (by omega) ?_)) | (show bitsK _ _ _ _ _; (refine or_bytes h0 hx.1 hx.2 (by omega) ?_)) | (show wrapK _ _ _; (refine wrap_u64 (by omega) (by omega) ?_)) | (show Wp _ _ _ _ _ _ _; (refine Wp.go tabOk rfl ?_)) | (show @cmpK _ _ _; (first | refine cmp_yes (by omega) ?_ | refine cmp_no (by omega) ?_ | (refine cmp_both ?_ ?_ <;> intro _))) | (show wrapK _ _ _; (refine wrap_i64 (by omega) (by omega) ?_)) | (show leK _ _ _; (refine le_of (by first | exact Nat.le_refl _ | omega) ?_)) | (show roomK _ _ _; (refine room_of (by first | omega | (dsimp only; omega)) ?_)) | (show ltK _ _ _; (refine lt_of (by omega) ?_)) | (show _ ∧ _; (refine ⟨?_, ?_⟩)) | (show keepK _ _ _ _ _; (refine keep_of (by first | exact List.Sublist.refl _ | exact List.Sublist.cons _ (List.Sublist.refl _) | exact List.Sublist.cons _ (List.Sublist.cons _ (List.Sublist.refl _)) | exact List.Sublist.cons _ (List.Sublist.cons _ (List.Sublist.cons _ (List.Sublist.refl _)))) (by first | exact (fun _ _ h => h) | exact (fun _ _ h => h.1) | exact (fun _ _ h => h.1.1)) ?_)) | (show ownK _ _ _ _ _; (refine own_keep ?_))))
    conv => whnf
    exact ⟨(j + 1, acc * 256 + x), [], ⟨hlt, by rw [hsn, valB_snoc, ← ha], by omega, by rw [hpow]; omega⟩, by simp only; omega, rfl, ⟨rfl, rfl, rfl, rfl, rfl, rfl, trivial⟩, ⟨List.mem_cons_self, trivial⟩, fun _ _ h => h⟩
  · obtain rfl : j = n := by omega
    (repeat' ((conv => whnf) <;> first | (show sliceK _ _ _ _ _ _ _ _; (refine slice_rest rfl hr.room (by omega) ?_)) | (show Wp _ _ _ _ _ _ _; (refine Wp.go tabOk rfl ?_)) | (show @cmpK _ _ _; (first | refine cmp_yes (by omega) ?_ | refine cmp_no (by omega) ?_ | (refine cmp_both ?_ ?_ <;> intro _))) | (show wrapK _ _ _; (refine wrap_i64 (by omega) (by omega) ?_)) | (show leK _ _ _; (refine le_of (by first | exact Nat.le_refl _ | omega) ?_)) | (show roomK _ _ _; (refine room_of (by first | omega | (dsimp only; omega)) ?_)) | (show ltK _ _ _; (refine lt_of (by omega) ?_)) | (show _ ∧ _; (refine ⟨?_, ?_⟩)) | (show keepK _ _ _ _ _; (refine keep_of (by first | exact List.Sublist.refl _ | exact List.Sublist.cons _ (List.Sublist.refl _) | exact List.Sublist.cons _ (List.Sublist.cons _ (List.Sublist.refl _)) | exact List.Sublist.cons _ (List.Sublist.cons _ (List.Sublist.cons _ (List.Sublist.refl _)))) (by first | exact (fun _ _ h => h) | exact (fun _ _ h => h.1) | exact (fun _ _ h => h.1.1)) ?_)) | (show ownK _ _ _ _ _; (refine own_keep ?_))))
    conv => whnf
    exact rd_ends (dropB u' j) (hr.trans (dropB_rest hr.room (by omega))) (by show u'.bs.drop j = _; rw [hbs]) (fun _ => by show Value.int .u64 acc = Value.int .u64 (valB (u.bs.take j)); rw [ha, hbs]) List.mem_cons_self (fun _ _ h => h)
set_option maxRecDepth 20000 in
theorem rnum_any (w : World) (b : Nat) (u : RdV) (e : Int) (n : Nat) (hn : n ≤ 4) (h : RdOk 100 w b u e) : Calls Try.prog 102 #[.pointer (some ⟨b, 0, none⟩), .int .i64 n] w (RdPost 100 w b u (fun x : Int => .int .u64 x) (rdNum n (u.bs, e))) := by
  have h' := h
  obtain ⟨hs, hby, hrm, hd, hb⟩ := h
  by_cases he : e = 0
  case neg =>
    have hN : rdNum n (u.bs, e) = (0, u.bs, e) := by unfold rdNum; rw [if_pos he]
    rw [hN]
    refine calls_of tab tabOk Try.func102 rfl rfl rfl [(0, boxL b)] (fun _ => boxL b) [.lp 0 0 0 0, .c (.int .i64 n)] _ (restA w b) 1 (by simp [SV.rfs, SV.rf, boxL, add_none]) rfl (by show 2 ≤ _; decide) (abs_box hb) ?_
    (repeat' ((conv => whnf) <;> first | (show Wp _ _ _ _ _ _ _; (refine Wp.go tabOk rfl ?_)) | (show @cmpK _ _ _; (first | refine cmp_yes (by omega) ?_ | refine cmp_no (by omega) ?_ | (refine cmp_both ?_ ?_ <;> intro _))) | (show wrapK _ _ _; (refine wrap_i64 (by omega) (by omega) ?_)) | (show leK _ _ _; (refine le_of (by first | exact Nat.le_refl _ | omega) ?_)) | (show roomK _ _ _; (refine room_of (by first | omega | (dsimp only; omega)) ?_)) | (show ltK _ _ _; (refine lt_of (by omega) ?_)) | (show _ ∧ _; (refine ⟨?_, ?_⟩)) | (show keepK _ _ _ _ _; (refine keep_of (by first | exact List.Sublist.refl _ | exact List.Sublist.cons _ (List.Sublist.refl _) | exact List.Sublist.cons _ (List.Sublist.cons _ (List.Sublist.refl _)) | exact List.Sublist.cons _ (List.Sublist.cons _ (List.Sublist.cons _ (List.Sublist.refl _)))) (by first | exact (fun _ _ h => h) | exact (fun _ _ h => h.1) | exact (fun _ _ h => h.1.1)) ?_)) | (show ownK _ _ _ _ _; (refine own_keep ?_))))
    conv => whnf
    exact rd_ends u (SX.Rest.refl hrm) rfl (fun _ => rfl) List.mem_cons_self (fun _ _ h => h)
  subst he
  by_cases hlen : u.bs.length < n
  · have hN : rdNum n (u.bs, 0) = (0, u.bs, 2) := by unfold rdNum; rw [if_neg (by simp), if_pos hlen]
    rw [hN]
    refine calls_of tab tabOk Try.func102 rfl rfl rfl [(0, boxL b)] (fun _ => boxL b) [.lp 0 0 0 0, .c (.int .i64 n)] _ (restA w b) 1 (by simp [SV.rfs, SV.rf, boxL, add_none]) rfl (by show 2 ≤ _; decide) (abs_box hb) ?_
    (repeat' ((conv => whnf) <;> first | (show Wp _ _ _ _ _ _ _; (refine Wp.go tabOk rfl ?_)) | (show @cmpK _ _ _; (first | refine cmp_yes (by omega) ?_ | refine cmp_no (by omega) ?_ | (refine cmp_both ?_ ?_ <;> intro _))) | (show wrapK _ _ _; (refine wrap_i64 (by omega) (by omega) ?_)) | (show leK _ _ _; (refine le_of (by first | exact Nat.le_refl _ | omega) ?_)) | (show roomK _ _ _; (refine room_of (by first | omega | (dsimp only; omega)) ?_)) | (show ltK _ _ _; (refine lt_of (by omega) ?_)) | (show _ ∧ _; (refine ⟨?_, ?_⟩)) | (show keepK _ _ _ _ _; (refine keep_of (by first | exact List.Sublist.refl _ | exact List.Sublist.cons _ (List.Sublist.refl _) | exact List.Sublist.cons _ (List.Sublist.cons _ (List.Sublist.refl _)) | exact List.Sublist.cons _ (List.Sublist.cons _ (List.Sublist.cons _ (List.Sublist.refl _)))) (by first | exact (fun _ _ h => h) | exact (fun _ _ h => h.1) | exact (fun _ _ h => h.1.1)) ?_)) | (show ownK _ _ _ _ _; (refine own_keep ?_))))
    conv => whnf
    exact rd_ends u (SX.Rest.refl hrm) rfl (fun _ => rfl) List.mem_cons_self (fun _ _ h => h)
  have hN : rdNum n (u.bs, 0) = (valB (u.bs.take n), u.bs.drop n, 0) := by unfold rdNum; rw [if_neg (by simp), if_neg hlen]
  rw [hN]
  refine calls_of tab tabOk Try.func102 rfl rfl rfl [(0, boxL b)] (fun _ => boxL b) [.lp 0 0 0 0, .c (.int .i64 n)] _ (restA w b) 1 (by simp [SV.rfs, SV.rf, boxL, add_none]) rfl (by show 2 ≤ _; decide) (abs_box hb) ?_
  (repeat' ((conv => whnf) <;> first | (show sliceK _ _ _ _ _ _ _ _; (refine slice_first rfl (by omega) (by omega) ?_)) | (show Wp _ _ _ _ _ _ _; (refine Wp.go tabOk rfl ?_)) | (show @cmpK _ _ _; (first | refine cmp_yes (by omega) ?_ | refine cmp_no (by omega) ?_ | (refine cmp_both ?_ ?_ <;> intro _))) | (show wrapK _ _ _; (refine wrap_i64 (by omega) (by omega) ?_)) | (show leK _ _ _; (refine le_of (by first | exact Nat.le_refl _ | omega) ?_)) | (show roomK _ _ _; (refine room_of (by first | omega | (dsimp only; omega)) ?_)) | (show ltK _ _ _; (refine lt_of (by omega) ?_)) | (show _ ∧ _; (refine ⟨?_, ?_⟩)) | (show keepK _ _ _ _ _; (refine keep_of (by first | exact List.Sublist.refl _ | exact List.Sublist.cons _ (List.Sublist.refl _) | exact List.Sublist.cons _ (List.Sublist.cons _ (List.Sublist.refl _)) | exact List.Sublist.cons _ (List.Sublist.cons _ (List.Sublist.cons _ (List.Sublist.refl _)))) (by first | exact (fun _ _ h => h) | exact (fun _ _ h => h.1) | exact (fun _ _ h => h.1.1)) ?_)) | (show ownK _ _ _ _ _; (refine own_keep ?_))))
  have hD : ∀ R w', (restA w b).holds R w' → (bytsD u).holds R w' := fun R w' h => rest_holds hd h
  refine Wp.loop (σ := Nat × Int) 1 (fun ⟨j, acc⟩ => [(0, .lp 0 0 0 0), (1, .c (.int .i64 n)), (5, .c (.int .u64 acc)), (28, .c (.slice u.base n u.cap)), (29, .c (.int .i64 n)), (30, .c (.int .i64 j))]) (fun _ => [(0, .box (cs (rcells u 0)) 100)]) (fun _ => restA w b)
    (fun ⟨j, acc⟩ => j ≤ n ∧ acc = valB (u.bs.take j) ∧ 0 ≤ acc ∧ acc < 256 ^ j) (fun s => n - s.1) (0, 0) [] (by decide) (fun s => ⟨rfl, rfl⟩) ⟨Nat.zero_le _, rfl, Int.le_refl _, by decide⟩ ⟨rfl, ⟨rfl, rfl, rfl, rfl, rfl, rfl, trivial⟩, ⟨List.mem_cons_self, trivial⟩, fun _ _ h => h⟩ ?_
  rintro ⟨j, acc⟩ ⟨hj, ha, h0, h1⟩
  by_cases hlt : j < n
  · have hjl : j < u.bs.length := by omega
    have hx := hby _ (List.getElem_mem hjl)
    have hp := pow_le3 (show j ≤ 3 by omega)
    have hpow : (256 : Int) ^ (j + 1) = 256 ^ j * 256 := Int.pow_succ 256 j
    refine Wp.know (p := ∃ a, u.base = some a) (fun ρ w' hw => (holds_of_abs hw fun R h => base_some (j := j) (rowsA_in (hD R w' h)) (by rw [byts_length]; exact hjl))) ?_
    rintro ⟨a, hba⟩
    have hrow : ∀ R w', (restA w b).holds R w' → RowsI w' (some a) 1 (byts u.bs) := fun R w' h => hba ▸ rowsA_in (hD R w' h)
    have hget := byts_get hjl
    have hsn := take_snoc hjl
    generalize u.bs[j] = x at *
    rw [hba]
    (repeat' ((conv => whnf) <;> first | (show idxK _ _ _ _ _; (refine idx_of a j rfl rfl hlt ?_)) | (show roK _ _ _; (refine ro_row0 hrow _ _ hget rfl ?_)) | (show wrapK _ _ _; (refine wrap_u64 (by omega) (by omega) ?_)) | (show Wp _ _ _ _ _ _ _; (refine Wp.go tabOk rfl ?_)) | (show @cmpK _ _ _; (first | refine cmp_yes (by omega) ?_ | refine cmp_no (by omega) ?_ | (refine cmp_both ?_ ?_ <;> intro _))) | (show wrapK _ _ _; (refine wrap_i64 (by omega) (by omega) ?_)) | (show leK _ _ _; (refine le_of (by first | exact Nat.le_refl _ | omega) ?_)) | (show roomK _ _ _; (refine room_of (by first | omega | (dsimp only; omega)) ?_)) | (show ltK _ _ _; (refine lt_of (by omega) ?_)) | (show _ ∧ _; (refine ⟨?_, ?_⟩)) | (show keepK _ _ _ _ _; (refine keep_of (by first | exact List.Sublist.refl _ | exact List.Sublist.cons _ (List.Sublist.refl _) | exact List.Sublist.cons _ (List.Sublist.cons _ (List.Sublist.refl _)) | exact List.Sublist.cons _ (List.Sublist.cons _ (List.Sublist.cons _ (List.Sublist.refl _)))) (by first | exact (fun _ _ h => h) | exact (fun _ _ h => h.1) | exact (fun _ _ h => h.1.1)) ?_)) | (show ownK _ _ _ _ _; (refine own_keep ?_))))
    conv => whnf
    exact ⟨(j + 1, acc * 256 + x), [], ⟨hlt, by rw [hsn, valB_snoc, ← ha], by omega, by rw [hpow]; omega⟩, by simp only; omega, rfl, ⟨rfl, rfl, rfl, rfl, rfl, rfl, trivial⟩, ⟨List.mem_cons_self, trivial⟩, fun _ _ h => h⟩
  · obtain rfl : j = n := by omega
    (repeat' ((conv => whnf) <;> first | (show sliceK _ _ _ _ _ _ _ _; (refine slice_rest rfl hrm (by omega) ?_)) | (show Wp _ _ _ _ _ _ _; (refine Wp.go tabOk rfl ?_)) | (show @cmpK _ _ _; (first | refine cmp_yes (by omega) ?_ | refine cmp_no (by omega) ?_ | (refine cmp_both ?_ ?_ <;> intro _))) | (show wrapK _ _ _; (refine wrap_i64 (by omega) (by omega) ?_)) | (show leK _ _ _; (refine le_of (by first | exact Nat.le_refl _ | omega) ?_)) | (show roomK _ _ _; (refine room_of (by first | omega | (dsimp only; omega)) ?_)) | (show ltK _ _ _; (refine lt_of (by omega) ?_)) | (show _ ∧ _; (refine ⟨?_, ?_⟩)) | (show keepK _ _ _ _ _; (refine keep_of (by first | exact List.Sublist.refl _ | exact List.Sublist.cons _ (List.Sublist.refl _) | exact List.Sublist.cons _ (List.Sublist.cons _ (List.Sublist.refl _)) | exact List.Sublist.cons _ (List.Sublist.cons _ (List.Sublist.cons _ (List.Sublist.refl _)))) (by first | exact (fun _ _ h => h) | exact (fun _ _ h => h.1) | exact (fun _ _ h => h.1.1)) ?_)) | (show ownK _ _ _ _ _; (refine own_keep ?_))))
    conv => whnf
    exact rd_ends (dropB u j) (dropB_rest hrm (by omega)) rfl (fun _ => by show Value.int .u64 acc = Value.int .u64 (valB (u.bs.take j)); rw [ha]) List.mem_cons_self (fun _ _ h => h)
end Go.Proofs.Ytajbngkcgbehlaa
