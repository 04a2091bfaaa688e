import Derived.Test.YtajbngkcgbehlaaSxZ
import Derived.Test.YtajbngkcgbehlaaProg
namespace Go.Proofs.Ytajbngkcgbehlaa
open Go.SX
def tab : List (Nat × TI) :=
  [(1, ⟨1, false, 0, 0, 8, .i64, [], true, [.nilFunc]⟩),
   (3, ⟨1, false, 6, 0, 8, .i64, [], true, [.int .i64 0]⟩),
   (4, ⟨1, false, 5, 0, 1, .i64, [], true, [.bool false]⟩),
   (5, ⟨1, false, 6, 0, 1, .u8, [], true, [.int .u8 0]⟩),
   (9, ⟨1, false, 4, 0, 16, .i64, [], true, [.string .empty]⟩),
   (20, ⟨1, false, 9, 0, 16, .i64, [], true, [.nilIface]⟩),
   (21, ⟨1, false, 6, 0, 4, .i32, [], true, [.int .i32 0]⟩),
   (22, ⟨1, false, 1, 43, 24, .i64, [], true, [.slice none 0 0]⟩),
   (24, ⟨2, true, 3, 0, 32, .i64, [(0, 1, 0), (1, 1, 0)], true, [.slice none 0 0, .int .i64 0]⟩),
   (27, ⟨1, false, 1, 32, 24, .i64, [], true, [.slice none 0 0]⟩),
   (28, ⟨1, false, 6, 0, 8, .i64, [], true, [.int .i64 0]⟩),
   (32, ⟨1, false, 1, 3, 24, .i64, [], true, [.slice none 0 0]⟩),
   (35, ⟨1, false, 1, 5, 24, .i64, [], true, [.slice none 0 0]⟩),
   (37, ⟨1, false, 7, 39, 8, .i64, [], true, [.pointer none]⟩),
   (39, ⟨2, true, 3, 0, 32, .i64, [(0, 1, 0), (1, 1, 0)], true, [.slice none 0 0, .int .i64 0]⟩),
   (41, ⟨1, false, 7, 43, 8, .i64, [], true, [.pointer none]⟩),
   (43, ⟨9, true, 3, 0, 120, .i64, [(0, 1, 0), (1, 1, 0), (2, 1, 0), (3, 1, 0), (4, 1, 0), (5, 1, 0), (6, 1, 0), (7, 1, 0), (8, 1, 0)], true, [.int .i64 0, .int .i64 0, .int .i64 0, .slice none 0 0, .int .i64 0, .int .i64 0, .int .i64 0, .slice none 0 0, .slice none 0 0]⟩),
   (46, ⟨5, true, 3, 0, 24, .i64, [(0, 1, 0), (1, 1, 0), (2, 1, 0), (3, 1, 0), (4, 1, 0)], true, [.int .i64 0, .bool false, .bool false, .bool false, .int .i64 0]⟩),
   (57, ⟨1, false, 1, 67, 24, .i64, [], true, [.slice none 0 0]⟩),
   (67, ⟨2, true, 3, 0, 16, .i64, [(0, 1, 0), (1, 1, 0)], true, [.int .i64 0, .int .i64 0]⟩),
   (70, ⟨1, false, 6, 0, 1, .i8, [], true, [.int .i8 0]⟩),
   (71, ⟨1, false, 6, 0, 2, .i16, [], true, [.int .i16 0]⟩),
   (75, ⟨11, true, 3, 0, 152, .i64, [(0, 9, 1), (9, 1, 0), (10, 1, 0)], true, [.int .i64 0, .int .i64 0, .int .i64 0, .slice none 0 0, .int .i64 0, .int .i64 0, .int .i64 0, .slice none 0 0, .slice none 0 0, .int .i64 0, .slice none 0 0]⟩),
   (84, ⟨1, false, 7, 86, 8, .i64, [], true, [.pointer none]⟩),
   (86, ⟨1, true, 3, 0, 24, .i64, [(0, 1, 0)], true, [.slice none 0 0]⟩),
   (87, ⟨1, false, 1, 4, 24, .i64, [], true, [.slice none 0 0]⟩),
   (89, ⟨1, false, 0, 0, 8, .i64, [], true, [.nilFunc]⟩),
   (92, ⟨1, false, 6, 0, 8, .u64, [], true, [.int .u64 0]⟩),
   (93, ⟨1, false, 7, 125, 8, .i64, [], true, [.pointer none]⟩),
   (95, ⟨1, false, 0, 0, 8, .i64, [], true, [.nilFunc]⟩),
   (98, ⟨1, false, 7, 100, 8, .i64, [], true, [.pointer none]⟩),
   (100, ⟨2, true, 3, 0, 32, .i64, [(0, 1, 0), (1, 1, 0)], true, [.slice none 0 0, .int .i64 0]⟩),
   (102, ⟨1, true, 3, 0, 8, .i64, [(0, 1, 0)], true, [.pointer none]⟩),
   (109, ⟨1, false, 0, 0, 8, .i64, [], true, [.nilFunc]⟩),
   (110, ⟨1, false, 0, 0, 8, .i64, [], true, [.nilFunc]⟩),
   (112, ⟨12, true, 3, 0, 160, .i64, [(0, 9, 1), (9, 1, 0), (10, 1, 0), (11, 1, 0)], true, [.int .i64 0, .int .i64 0, .int .i64 0, .slice none 0 0, .int .i64 0, .int .i64 0, .int .i64 0, .slice none 0 0, .slice none 0 0, .slice none 0 0, .nilFunc, .int .i64 0]⟩),
   (119, ⟨1, false, 0, 0, 8, .i64, [], true, [.nilFunc]⟩),
   (123, ⟨1, false, 6, 0, 8, .u64, [], true, [.int .u64 0]⟩),
   (125, ⟨2, true, 3, 0, 32, .i64, [(0, 1, 0), (1, 1, 0)], true, [.slice none 0 0, .int .i64 0]⟩),
   (128, ⟨1, false, 6, 0, 4, .u32, [], true, [.int .u32 0]⟩),
   (130, ⟨1, false, 1, 132, 24, .i64, [], true, [.slice none 0 0]⟩),
   (132, ⟨2, true, 3, 0, 16, .i64, [(0, 1, 0), (1, 1, 0)], true, [.int .i64 0, .int .i64 0]⟩)]
theorem tabOk : ∀ p ∈ tab, mkTI Try.prog p.1 = some p.2 := by
  have h : tab.map (fun p => mkTI Try.prog p.1) = tab.map (fun p => some p.2) := by kernel_rfl
  intro p hp
  obtain ⟨i, hi⟩ := List.getElem?_of_mem hp
  have h1 := congrArg (fun l => l[i]?) h
  simp only [List.getElem?_map, hi, Option.map_some, Option.some.injEq] at h1
  exact h1

theorem ret_int {k : IntKind} {a b : Int} (h : a = b) : Ending.returned (.int k a) = .returned (.int k b) := by rw [h]
def entLoop : Int → List Int → Int
  | n, [] => n
  | n, d :: r => if d < 1 ∨ d > 64 / n then 0 else entLoop (n * d) r
@[irreducible] def entries (xs : List Int) : Int := if xs.length < 1 ∨ 3 < xs.length then 0 else entLoop 1 xs
theorem drop_at {α : Type} {xs : List α} {k : Nat} (h : k < xs.length) : xs.drop k = xs[k] :: xs.drop (k + 1) := List.drop_eq_getElem_cons h

set_option maxHeartbeats 1000000 in
theorem entries_any (w : World) (sb : Option Addr) (sc : Nat) (xs : List Int) (hx : RowsI w sb 1 (ints xs)) :
    Calls Try.prog 20 #[.slice sb xs.length sc] w fun e w' => e = .returned (.int .i64 (entries xs)) ∧ Ext w w' := by
  by_cases hl : xs.length < 1 ∨ 3 < xs.length
  · have hs : entries xs = 0 := by unfold entries; rw [if_pos hl]
    rw [hs]
    refine calls_of tab tabOk Try.func20 rfl rfl rfl [] (fun _ => ⟨none, 0⟩) [.c (.slice sb xs.length sc)] [] (baseA w) 0 rfl rfl (by show 1 ≤ _; decide) (abs_base w) ?_
    (repeat' ((conv => whnf) <;> first | (show Wp _ _ _ _ _ _ _; (refine Wp.go tabOk rfl ?_)) | (show @cmpK _ _ _; (first | refine cmp_yes (by omega) ?_ | refine cmp_no (by omega) ?_ | (refine cmp_both ?_ ?_ <;> intro _))) | (show wrapK _ _ _; (refine wrap_i64 (by omega) (by omega) ?_)) | (show leK _ _ _; (refine le_of (by first | exact Nat.le_refl _ | omega) ?_)) | (show roomK _ _ _; (refine room_of (by first | omega | (dsimp only; omega)) ?_)) | (show ltK _ _ _; (refine lt_of (by omega) ?_)) | (show _ ∧ _; (refine ⟨?_, ?_⟩)) | (show keepK _ _ _ _ _; (refine keep_of (by first | exact List.Sublist.refl _ | exact List.Sublist.cons _ (List.Sublist.refl _) | exact List.Sublist.cons _ (List.Sublist.cons _ (List.Sublist.refl _)) | exact List.Sublist.cons _ (List.Sublist.cons _ (List.Sublist.cons _ (List.Sublist.refl _)))) (by first | exact (fun _ _ h => h) | exact (fun _ _ h => h.1) | exact (fun _ _ h => h.1.1)) ?_)) | (show ownK _ _ _ _ _; (refine own_keep ?_))))
    all_goals exact fin_of fun ρ w' hw => ⟨rfl, ext_of_abs hw (fun _ _ h => h)⟩
  · have hs : entries xs = entLoop 1 xs := by unfold entries; rw [if_neg hl]
    rw [hs]
    refine calls_of tab tabOk Try.func20 rfl rfl rfl [] (fun _ => ⟨none, 0⟩) [.c (.slice sb xs.length sc)] [] (baseA w) 0 rfl rfl (by show 1 ≤ _; decide) (abs_base w) ?_
    (repeat' ((conv => whnf) <;> first | (show Wp _ _ _ _ _ _ _; (refine Wp.go tabOk rfl ?_)) | (show @cmpK _ _ _; (first | refine cmp_yes (by omega) ?_ | refine cmp_no (by omega) ?_ | (refine cmp_both ?_ ?_ <;> intro _))) | (show wrapK _ _ _; (refine wrap_i64 (by omega) (by omega) ?_)) | (show leK _ _ _; (refine le_of (by first | exact Nat.le_refl _ | omega) ?_)) | (show roomK _ _ _; (refine room_of (by first | omega | (dsimp only; omega)) ?_)) | (show ltK _ _ _; (refine lt_of (by omega) ?_)) | (show _ ∧ _; (refine ⟨?_, ?_⟩)) | (show keepK _ _ _ _ _; (refine keep_of (by first | exact List.Sublist.refl _ | exact List.Sublist.cons _ (List.Sublist.refl _) | exact List.Sublist.cons _ (List.Sublist.cons _ (List.Sublist.refl _)) | exact List.Sublist.cons _ (List.Sublist.cons _ (List.Sublist.cons _ (List.Sublist.refl _)))) (by first | exact (fun _ _ h => h) | exact (fun _ _ h => h.1) | exact (fun _ _ h => h.1.1)) ?_)) | (show ownK _ _ _ _ _; (refine own_keep ?_))))
    obtain ⟨a, rfl⟩ : ∃ a, sb = some a := base_some (j := 0) hx (by rw [ints_length]; omega)
    refine Wp.loop (σ := Nat × Int) 0 (fun ⟨k, n⟩ => [(14, .c (.slice (some a) xs.length sc)), (15, .c (.int .i64 xs.length)), (16, .c (.int .i64 k)), (3, .c (.int .i64 n))]) (fun _ => []) (fun _ => baseA w)
      (fun s => s.1 ≤ xs.length ∧ 1 ≤ s.2 ∧ s.2 ≤ 64 ∧ entLoop 1 xs = entLoop s.2 (xs.drop s.1)) (fun s => xs.length - s.1) (0, 1) [] (Nat.le_refl _) (fun s => ⟨rfl, rfl⟩) ⟨by simp, by simp, by simp, rfl⟩ ⟨rfl, ⟨rfl, rfl, rfl, rfl, trivial⟩, trivial, fun _ _ h => h⟩ ?_
    rintro ⟨k, n⟩ ⟨hk, h1, h64, he⟩
    simp only at hk h1 h64 he
    by_cases hlt : k < xs.length
    · rw [drop_at hlt] at he
      simp only [entLoop] at he
      have hdiv : 64 / n ≤ 64 := Int.ediv_le_self _ (by omega)
      have hmul : 1 ≤ xs[k] → xs[k] ≤ 64 / n → 1 ≤ n * xs[k] ∧ n * xs[k] ≤ 64 := fun g1 g2 => by
        have g3 : xs[k] * n ≤ 64 := Int.le_trans (Int.mul_le_mul_of_nonneg_right g2 (by omega)) (Int.ediv_mul_le _ (by omega))
        have g4 : n * 1 ≤ n * xs[k] := Int.mul_le_mul_of_nonneg_left g1 (by omega)
        rw [Int.mul_comm] at g3
        omega
      (repeat' ((conv => whnf) <;> first | refine idx_of a k rfl rfl hlt ?_ | refine ro_row0 (fun R w' h => rows_base h hx) _ _ (ints_get hlt) rfl ?_ | refine div_pos rfl (by omega) (by omega) (by omega) ?_ | refine wrap_i64 (by have := hmul (by omega) (by omega); omega) (by have := hmul (by omega) (by omega); omega) ?_ | (show Wp _ _ _ _ _ _ _; (refine Wp.go tabOk rfl ?_)) | (show @cmpK _ _ _; (first | refine cmp_yes (by omega) ?_ | refine cmp_no (by omega) ?_ | (refine cmp_both ?_ ?_ <;> intro _))) | (show wrapK _ _ _; (refine wrap_i64 (by omega) (by omega) ?_)) | (show leK _ _ _; (refine le_of (by first | exact Nat.le_refl _ | omega) ?_)) | (show roomK _ _ _; (refine room_of (by first | omega | (dsimp only; omega)) ?_)) | (show ltK _ _ _; (refine lt_of (by omega) ?_)) | (show _ ∧ _; (refine ⟨?_, ?_⟩)) | (show keepK _ _ _ _ _; (refine keep_of (by first | exact List.Sublist.refl _ | exact List.Sublist.cons _ (List.Sublist.refl _) | exact List.Sublist.cons _ (List.Sublist.cons _ (List.Sublist.refl _)) | exact List.Sublist.cons _ (List.Sublist.cons _ (List.Sublist.cons _ (List.Sublist.refl _)))) (by first | exact (fun _ _ h => h) | exact (fun _ _ h => h.1) | exact (fun _ _ h => h.1.1)) ?_)) | (show ownK _ _ _ _ _; (refine own_keep ?_))))
      · rw [if_pos (.inl (by omega))] at he
        rw [he]
        exact fin_of fun ρ w' hw => ⟨rfl, ext_of_abs hw (fun _ _ h => h)⟩
      · rw [if_pos (.inr (by omega))] at he
        rw [he]
        exact fin_of fun ρ w' hw => ⟨rfl, ext_of_abs hw (fun _ _ h => h)⟩
      · rw [if_neg (by omega)] at he
        have := hmul (by omega) (by omega)
        exact ⟨(k + 1, n * xs[k]), [], ⟨hlt, this.1, this.2, he⟩, by simp only; omega, rfl, ⟨rfl, rfl, rfl, rfl, trivial⟩, trivial, fun _ _ h => h⟩
    · have hkl : xs.drop k = [] := by simp; omega
      rw [hkl] at he
      rw [he]
      (repeat' ((conv => whnf) <;> first | (show Wp _ _ _ _ _ _ _; (refine Wp.go tabOk rfl ?_)) | (show @cmpK _ _ _; (first | refine cmp_yes (by omega) ?_ | refine cmp_no (by omega) ?_ | (refine cmp_both ?_ ?_ <;> intro _))) | (show wrapK _ _ _; (refine wrap_i64 (by omega) (by omega) ?_)) | (show leK _ _ _; (refine le_of (by first | exact Nat.le_refl _ | omega) ?_)) | (show roomK _ _ _; (refine room_of (by first | omega | (dsimp only; omega)) ?_)) | (show ltK _ _ _; (refine lt_of (by omega) ?_)) | (show _ ∧ _; (refine ⟨?_, ?_⟩)) | (show keepK _ _ _ _ _; (refine keep_of (by first | exact List.Sublist.refl _ | exact List.Sublist.cons _ (List.Sublist.refl _) | exact List.Sublist.cons _ (List.Sublist.cons _ (List.Sublist.refl _)) | exact List.Sublist.cons _ (List.Sublist.cons _ (List.Sublist.cons _ (List.Sublist.refl _)))) (by first | exact (fun _ _ h => h) | exact (fun _ _ h => h.1) | exact (fun _ _ h => h.1.1)) ?_)) | (show ownK _ _ _ _ _; (refine own_keep ?_))))
      exact fin_of fun ρ w' hw => ⟨rfl, ext_of_abs hw (fun _ _ h => h)⟩

/-- the document's own reckoning: the same -/
theorem entRef {n d : Int} (h1 : 1 ≤ n) (hd : 1 ≤ d) : (d > 64 / n) ↔ (n * d > 64) := by
  constructor
  · intro h
    have : 64 < n * d := by
      have h2 := Int.lt_mul_of_ediv_lt (by omega : (0:Int) < n) h
      rwa [Int.mul_comm] at h2
    omega
  · intro h
    have h2 : 64 < d * n := by rw [Int.mul_comm]; omega
    exact Int.ediv_lt_of_lt_mul (by omega) h2

set_option maxHeartbeats 1000000 in
theorem refEntries_any (w : World) (sb : Option Addr) (sc : Nat) (xs : List Int) (hx : RowsI w sb 1 (ints xs)) :
    Calls Try.prog 21 #[.slice sb xs.length sc] w fun e w' => e = .returned (.int .i64 (entries xs)) ∧ Ext w w' := by
  by_cases hl : xs.length < 1 ∨ 3 < xs.length
  · have hs : entries xs = 0 := by unfold entries; rw [if_pos hl]
    rw [hs]
    refine calls_of tab tabOk Try.func21 rfl rfl rfl [] (fun _ => ⟨none, 0⟩) [.c (.slice sb xs.length sc)] [] (baseA w) 0 rfl rfl (by show 1 ≤ _; decide) (abs_base w) ?_
    (repeat' ((conv => whnf) <;> first | (show Wp _ _ _ _ _ _ _; (refine Wp.go tabOk rfl ?_)) | (show @cmpK _ _ _; (first | refine cmp_yes (by omega) ?_ | refine cmp_no (by omega) ?_ | (refine cmp_both ?_ ?_ <;> intro _))) | (show wrapK _ _ _; (refine wrap_i64 (by omega) (by omega) ?_)) | (show leK _ _ _; (refine le_of (by first | exact Nat.le_refl _ | omega) ?_)) | (show roomK _ _ _; (refine room_of (by first | omega | (dsimp only; omega)) ?_)) | (show ltK _ _ _; (refine lt_of (by omega) ?_)) | (show _ ∧ _; (refine ⟨?_, ?_⟩)) | (show keepK _ _ _ _ _; (refine keep_of (by first | exact List.Sublist.refl _ | exact List.Sublist.cons _ (List.Sublist.refl _) | exact List.Sublist.cons _ (List.Sublist.cons _ (List.Sublist.refl _)) | exact List.Sublist.cons _ (List.Sublist.cons _ (List.Sublist.cons _ (List.Sublist.refl _)))) (by first | exact (fun _ _ h => h) | exact (fun _ _ h => h.1) | exact (fun _ _ h => h.1.1)) ?_)) | (show ownK _ _ _ _ _; (refine own_keep ?_))))
    all_goals exact fin_of fun ρ w' hw => ⟨rfl, ext_of_abs hw (fun _ _ h => h)⟩
  · have hs : entries xs = entLoop 1 xs := by unfold entries; rw [if_neg hl]
    rw [hs]
    refine calls_of tab tabOk Try.func21 rfl rfl rfl [] (fun _ => ⟨none, 0⟩) [.c (.slice sb xs.length sc)] [] (baseA w) 0 rfl rfl (by show 1 ≤ _; decide) (abs_base w) ?_
    (repeat' ((conv => whnf) <;> first | (show Wp _ _ _ _ _ _ _; (refine Wp.go tabOk rfl ?_)) | (show @cmpK _ _ _; (first | refine cmp_yes (by omega) ?_ | refine cmp_no (by omega) ?_ | (refine cmp_both ?_ ?_ <;> intro _))) | (show wrapK _ _ _; (refine wrap_i64 (by omega) (by omega) ?_)) | (show leK _ _ _; (refine le_of (by first | exact Nat.le_refl _ | omega) ?_)) | (show roomK _ _ _; (refine room_of (by first | omega | (dsimp only; omega)) ?_)) | (show ltK _ _ _; (refine lt_of (by omega) ?_)) | (show _ ∧ _; (refine ⟨?_, ?_⟩)) | (show keepK _ _ _ _ _; (refine keep_of (by first | exact List.Sublist.refl _ | exact List.Sublist.cons _ (List.Sublist.refl _) | exact List.Sublist.cons _ (List.Sublist.cons _ (List.Sublist.refl _)) | exact List.Sublist.cons _ (List.Sublist.cons _ (List.Sublist.cons _ (List.Sublist.refl _)))) (by first | exact (fun _ _ h => h) | exact (fun _ _ h => h.1) | exact (fun _ _ h => h.1.1)) ?_)) | (show ownK _ _ _ _ _; (refine own_keep ?_))))
    obtain ⟨a, rfl⟩ : ∃ a, sb = some a := base_some (j := 0) hx (by rw [ints_length]; omega)
    refine Wp.loop (σ := Nat × Int) 0 (fun ⟨k, n⟩ => [(14, .c (.slice (some a) xs.length sc)), (15, .c (.int .i64 xs.length)), (16, .c (.int .i64 k)), (3, .c (.int .i64 n))]) (fun _ => []) (fun _ => baseA w)
      (fun s => s.1 ≤ xs.length ∧ 1 ≤ s.2 ∧ s.2 ≤ 64 ∧ entLoop 1 xs = entLoop s.2 (xs.drop s.1)) (fun s => xs.length - s.1) (0, 1) [] (Nat.le_refl _) (fun s => ⟨rfl, rfl⟩) ⟨by simp, by simp, by simp, rfl⟩ ⟨rfl, ⟨rfl, rfl, rfl, rfl, trivial⟩, trivial, fun _ _ h => h⟩ ?_
    rintro ⟨k, n⟩ ⟨hk, h1, h64, he⟩
    simp only at hk h1 h64 he
    by_cases hlt : k < xs.length
    · rw [drop_at hlt] at he
      simp only [entLoop] at he
      have hb : 1 ≤ xs[k] → xs[k] ≤ 64 → 1 ≤ n * xs[k] ∧ n * xs[k] ≤ 4096 := fun g1 g2 => by
        have g3 : n * xs[k] ≤ 64 * 64 := Int.mul_le_mul h64 g2 (by omega) (by omega)
        have g4 : n * 1 ≤ n * xs[k] := Int.mul_le_mul_of_nonneg_left g1 (by omega)
        omega
      have hq : xs[k] > 64 → 1 ≤ xs[k] → n * xs[k] > 64 := fun g1 g2 => by
        have g4 : 1 * xs[k] ≤ n * xs[k] := Int.mul_le_mul_of_nonneg_right h1 (by omega)
        omega
      (repeat' ((conv => whnf) <;> first | refine idx_of a k rfl rfl hlt ?_ | refine ro_row0 (fun R w' h => rows_base h hx) _ _ (ints_get hlt) rfl ?_ | refine wrap_i64 (by have := hb (by omega) (by omega); omega) (by have := hb (by omega) (by omega); omega) ?_ | (show Wp _ _ _ _ _ _ _; (refine Wp.go tabOk rfl ?_)) | (show @cmpK _ _ _; (first | refine cmp_yes (by omega) ?_ | refine cmp_no (by omega) ?_ | (refine cmp_both ?_ ?_ <;> intro _))) | (show wrapK _ _ _; (refine wrap_i64 (by omega) (by omega) ?_)) | (show leK _ _ _; (refine le_of (by first | exact Nat.le_refl _ | omega) ?_)) | (show roomK _ _ _; (refine room_of (by first | omega | (dsimp only; omega)) ?_)) | (show ltK _ _ _; (refine lt_of (by omega) ?_)) | (show _ ∧ _; (refine ⟨?_, ?_⟩)) | (show keepK _ _ _ _ _; (refine keep_of (by first | exact List.Sublist.refl _ | exact List.Sublist.cons _ (List.Sublist.refl _) | exact List.Sublist.cons _ (List.Sublist.cons _ (List.Sublist.refl _)) | exact List.Sublist.cons _ (List.Sublist.cons _ (List.Sublist.cons _ (List.Sublist.refl _)))) (by first | exact (fun _ _ h => h) | exact (fun _ _ h => h.1) | exact (fun _ _ h => h.1.1)) ?_)) | (show ownK _ _ _ _ _; (refine own_keep ?_))))
      · rw [if_pos (.inl (by omega))] at he
        rw [he]
        exact fin_of fun ρ w' hw => ⟨rfl, ext_of_abs hw (fun _ _ h => h)⟩
      · rw [if_pos (.inr ((entRef h1 (by omega)).2 (hq (by omega) (by omega))))] at he
        rw [he]
        exact fin_of fun ρ w' hw => ⟨rfl, ext_of_abs hw (fun _ _ h => h)⟩
      · rw [if_pos (.inr ((entRef h1 (by omega)).2 (by omega)))] at he
        rw [he]
        exact fin_of fun ρ w' hw => ⟨rfl, ext_of_abs hw (fun _ _ h => h)⟩
      · rename_i h5 h6
        have hn : ¬ (xs[k] < 1 ∨ xs[k] > 64 / n) := by
          rintro (h | h)
          · omega
          · have := (entRef h1 (by omega)).1 h; omega
        rw [if_neg hn] at he
        have := hb (by omega) (by omega)
        exact ⟨(k + 1, n * xs[k]), [], ⟨hlt, this.1, by simp only; omega, he⟩, by simp only; omega, rfl, ⟨rfl, rfl, rfl, rfl, trivial⟩, trivial, fun _ _ h => h⟩
    · have hkl : xs.drop k = [] := by simp; omega
      rw [hkl] at he
      rw [he]
      (repeat' ((conv => whnf) <;> first | (show Wp _ _ _ _ _ _ _; (refine Wp.go tabOk rfl ?_)) | (show @cmpK _ _ _; (first | refine cmp_yes (by omega) ?_ | refine cmp_no (by omega) ?_ | (refine cmp_both ?_ ?_ <;> intro _))) | (show wrapK _ _ _; (refine wrap_i64 (by omega) (by omega) ?_)) | (show leK _ _ _; (refine le_of (by first | exact Nat.le_refl _ | omega) ?_)) | (show roomK _ _ _; (refine room_of (by first | omega | (dsimp only; omega)) ?_)) | (show ltK _ _ _; (refine lt_of (by omega) ?_)) | (show _ ∧ _; (refine ⟨?_, ?_⟩)) | (show keepK _ _ _ _ _; (refine keep_of (by first | exact List.Sublist.refl _ | exact List.Sublist.cons _ (List.Sublist.refl _) | exact List.Sublist.cons _ (List.Sublist.cons _ (List.Sublist.refl _)) | exact List.Sublist.cons _ (List.Sublist.cons _ (List.Sublist.cons _ (List.Sublist.refl _)))) (by first | exact (fun _ _ h => h) | exact (fun _ _ h => h.1) | exact (fun _ _ h => h.1.1)) ?_)) | (show ownK _ _ _ _ _; (refine own_keep ?_))))
      exact fin_of fun ρ w' hw => ⟨rfl, ext_of_abs hw (fun _ _ h => h)⟩
end Go.Proofs.Ytajbngkcgbehlaa
