import Derived.Test.YtajbngkcgbehlaaGB
namespace Go.Proofs.Ytajbngkcgbehlaa
open Go.SX
def nearL (xs : List Int) : Bool := xs.all fun v => decide (-1048576 ≤ v ∧ v ≤ 1048576)

set_option maxHeartbeats 1000000 in
theorem refNear_any (w : World) (x : IntsV) (hx : x.ok w) :
    Calls Try.prog 48 #[x.val] w fun e w' => e = .returned (.bool (nearL x.xs)) ∧ Ext w w' := by
  obtain ⟨ab, ac, xs⟩ := x
  obtain ⟨hx, _, _, hfew⟩ := hx
  simp only [IntsV.val] at *
  refine calls_of tab tabOk Try.func48 rfl rfl rfl [] (fun _ => ⟨none, 0⟩) [.c (.slice ab xs.length ac)] [] (baseA w) 0 rfl rfl (by show 1 ≤ _; decide) (abs_base w) ?_
  (repeat' ((conv => whnf) <;> first | (show Wp _ _ _ _ _ _ _; (refine Wp.go tabOk rfl ?_)) | (show @cmpK _ _ _; (first | refine cmp_yes (by omega) ?_ | refine cmp_no (by omega) ?_ | (refine cmp_both ?_ ?_ <;> intro _))) | (show wrapK _ _ _; (refine wrap_i64 (by omega) (by omega) ?_)) | (show leK _ _ _; (refine le_of (by first | exact Nat.le_refl _ | omega) ?_)) | (show roomK _ _ _; (refine room_of (by first | omega | (dsimp only; omega)) ?_)) | (show ltK _ _ _; (refine lt_of (by omega) ?_)) | (show _ ∧ _; (refine ⟨?_, ?_⟩)) | (show keepK _ _ _ _ _; (refine keep_of (by first | exact List.Sublist.refl _ | exact List.Sublist.cons _ (List.Sublist.refl _) | exact List.Sublist.cons _ (List.Sublist.cons _ (List.Sublist.refl _)) | exact List.Sublist.cons _ (List.Sublist.cons _ (List.Sublist.cons _ (List.Sublist.refl _)))) (by first | exact (fun _ _ h => h) | exact (fun _ _ h => h.1) | exact (fun _ _ h => h.1.1)) ?_)) | (show ownK _ _ _ _ _; (refine own_keep ?_))))
  refine Wp.loop (σ := Nat) 0 (fun k => [(5, .c (.slice ab xs.length ac)), (6, .c (.int .i64 xs.length)), (7, .c (.int .i64 k))]) (fun _ => []) (fun _ => baseA w)
      (fun k => k ≤ xs.length ∧ nearL xs = nearL (xs.drop k)) (fun k => xs.length - k) 0 [] (Nat.le_refl _) (fun s => ⟨rfl, rfl⟩) ⟨by simp, by simp⟩ ⟨rfl, ⟨rfl, rfl, rfl, trivial⟩, trivial, fun _ _ h => h⟩ ?_
  rintro k ⟨hk, he⟩
  by_cases hlt : k < xs.length
  · obtain ⟨a, rfl⟩ : ∃ a, ab = some a := base_some (j := k) hx (by rw [ints_length]; omega)
    rw [drop_at hlt] at he
    simp only [nearL, List.all_cons] at he
    (repeat' ((conv => whnf) <;> first | refine idx_of a k rfl rfl hlt ?_ | refine ro_row0 (fun R w' h => rows_base h hx) _ _ (ints_get hlt) rfl ?_ | (show Wp _ _ _ _ _ _ _; (refine Wp.go tabOk rfl ?_)) | (show @cmpK _ _ _; (first | refine cmp_yes (by omega) ?_ | refine cmp_no (by omega) ?_ | (refine cmp_both ?_ ?_ <;> intro _))) | (show wrapK _ _ _; (refine wrap_i64 (by omega) (by omega) ?_)) | (show leK _ _ _; (refine le_of (by first | exact Nat.le_refl _ | omega) ?_)) | (show roomK _ _ _; (refine room_of (by first | omega | (dsimp only; omega)) ?_)) | (show ltK _ _ _; (refine lt_of (by omega) ?_)) | (show _ ∧ _; (refine ⟨?_, ?_⟩)) | (show keepK _ _ _ _ _; (refine keep_of (by first | exact List.Sublist.refl _ | exact List.Sublist.cons _ (List.Sublist.refl _) | exact List.Sublist.cons _ (List.Sublist.cons _ (List.Sublist.refl _)) | exact List.Sublist.cons _ (List.Sublist.cons _ (List.Sublist.cons _ (List.Sublist.refl _)))) (by first | exact (fun _ _ h => h) | exact (fun _ _ h => h.1) | exact (fun _ _ h => h.1.1)) ?_)) | (show ownK _ _ _ _ _; (refine own_keep ?_))))
    · exact ends_bool (fun _ _ h => h) rfl (by rw [nearL, he, decide_eq_false (by omega), Bool.false_and])
    · exact ends_bool (fun _ _ h => h) rfl (by rw [nearL, he, decide_eq_false (by omega), Bool.false_and])
    · rw [decide_eq_true (p := -1048576 ≤ xs[k] ∧ xs[k] ≤ 1048576) (by omega), Bool.true_and] at he
      exact ⟨k + 1, [], ⟨hlt, he⟩, by omega, rfl, ⟨rfl, rfl, rfl, trivial⟩, trivial, fun _ _ h => h⟩
  · rw [List.drop_of_length_le (show xs.length ≤ k by omega)] at he
    (repeat' ((conv => whnf) <;> first | (show Wp _ _ _ _ _ _ _; (refine Wp.go tabOk rfl ?_)) | (show @cmpK _ _ _; (first | refine cmp_yes (by omega) ?_ | refine cmp_no (by omega) ?_ | (refine cmp_both ?_ ?_ <;> intro _))) | (show wrapK _ _ _; (refine wrap_i64 (by omega) (by omega) ?_)) | (show leK _ _ _; (refine le_of (by first | exact Nat.le_refl _ | omega) ?_)) | (show roomK _ _ _; (refine room_of (by first | omega | (dsimp only; omega)) ?_)) | (show ltK _ _ _; (refine lt_of (by omega) ?_)) | (show _ ∧ _; (refine ⟨?_, ?_⟩)) | (show keepK _ _ _ _ _; (refine keep_of (by first | exact List.Sublist.refl _ | exact List.Sublist.cons _ (List.Sublist.refl _) | exact List.Sublist.cons _ (List.Sublist.cons _ (List.Sublist.refl _)) | exact List.Sublist.cons _ (List.Sublist.cons _ (List.Sublist.cons _ (List.Sublist.refl _)))) (by first | exact (fun _ _ h => h) | exact (fun _ _ h => h.1) | exact (fun _ _ h => h.1.1)) ?_)) | (show ownK _ _ _ _ _; (refine own_keep ?_))))
    exact ends_bool (fun _ _ h => h) rfl (by rw [he]; rfl)

def foldI (f : Int → Int → Int) : List Int → Int
  | [] => 0
  | x :: r => r.foldl f x
theorem foldI_take {f : Int → Int → Int} {xs : List Int} {k : Nat} (h : k < xs.length) (h0 : 0 < k) : foldI f (xs.take (k + 1)) = f (foldI f (xs.take k)) xs[k] := by
  rw [List.take_succ_eq_append_getElem h]
  obtain ⟨x, r, e⟩ : ∃ x r, xs.take k = x :: r := by
    cases hx : xs.take k with
    | nil => have := congrArg List.length hx; rw [List.length_take, List.length_nil] at this; omega
    | cons x r => exact ⟨x, r, rfl⟩
  rw [e]
  simp [foldI]
set_option maxHeartbeats 1000000 in
theorem max_any (w : World) (x : IntsV) (hx : x.ok w) (hl : 1 ≤ x.xs.length) :
    Calls Try.prog 78 #[x.val] w fun e w' => e = .returned (.int .i64 (foldI max x.xs)) ∧ Ext w w' := by
  obtain ⟨ab, ac, xs⟩ := x
  obtain ⟨hx, _, _, hfew⟩ := hx
  simp only [IntsV.val] at *
  obtain ⟨a, rfl⟩ : ∃ a, ab = some a := base_some (j := 0) hx (by rw [ints_length]; omega)
  refine calls_of tab tabOk Try.func78 rfl rfl rfl [] (fun _ => ⟨none, 0⟩) [.c (.slice (some a) xs.length ac)] [] (baseA w) 0 rfl rfl (by show 1 ≤ _; decide) (abs_base w) ?_
  (repeat' ((conv => whnf) <;> first | refine idx_of a 0 rfl rfl hl ?_ | refine ro_row0 (fun R w' h => rows_base h hx) _ _ (ints_get hl) rfl ?_ | (show Wp _ _ _ _ _ _ _; (refine Wp.go tabOk rfl ?_)) | (show @cmpK _ _ _; (first | refine cmp_yes (by omega) ?_ | refine cmp_no (by omega) ?_ | (refine cmp_both ?_ ?_ <;> intro _))) | (show wrapK _ _ _; (refine wrap_i64 (by omega) (by omega) ?_)) | (show leK _ _ _; (refine le_of (by first | exact Nat.le_refl _ | omega) ?_)) | (show roomK _ _ _; (refine room_of (by first | omega | (dsimp only; omega)) ?_)) | (show ltK _ _ _; (refine lt_of (by omega) ?_)) | (show _ ∧ _; (refine ⟨?_, ?_⟩)) | (show keepK _ _ _ _ _; (refine keep_of (by first | exact List.Sublist.refl _ | exact List.Sublist.cons _ (List.Sublist.refl _) | exact List.Sublist.cons _ (List.Sublist.cons _ (List.Sublist.refl _)) | exact List.Sublist.cons _ (List.Sublist.cons _ (List.Sublist.cons _ (List.Sublist.refl _)))) (by first | exact (fun _ _ h => h) | exact (fun _ _ h => h.1) | exact (fun _ _ h => h.1.1)) ?_)) | (show ownK _ _ _ _ _; (refine own_keep ?_))))
  refine Wp.loop (σ := Nat × Int) 0 (fun ⟨k, m⟩ => [(0, .c (.slice (some a) xs.length ac)), (3, .c (.int .i64 m)), (4, .c (.int .i64 k))]) (fun _ => []) (fun _ => baseA w)
      (fun s => 1 ≤ s.1 ∧ s.1 ≤ xs.length ∧ s.2 = foldI max (xs.take s.1)) (fun s => xs.length - s.1) (1, xs[0]) [] (Nat.le_refl _) (fun s => ⟨rfl, rfl⟩) ⟨by simp, hl, by cases xs with | nil => simp at hl | cons y r => simp [foldI]⟩ ⟨rfl, ⟨rfl, rfl, rfl, trivial⟩, trivial, fun _ _ h => h⟩ ?_
  rintro ⟨k, m⟩ ⟨h1, hk, he⟩
  simp only at h1 hk he
  by_cases hlt : k < xs.length
  · have hs := foldI_take (f := max) hlt h1
    rw [← he] at hs
    (repeat' ((conv => whnf) <;> first | refine idx_of a k rfl rfl hlt ?_ | refine ro_row0 (fun R w' h => rows_base h hx) _ _ (ints_get hlt) rfl ?_ | (show Wp _ _ _ _ _ _ _; (refine Wp.go tabOk rfl ?_)) | (show @cmpK _ _ _; (first | refine cmp_yes (by omega) ?_ | refine cmp_no (by omega) ?_ | (refine cmp_both ?_ ?_ <;> intro _))) | (show wrapK _ _ _; (refine wrap_i64 (by omega) (by omega) ?_)) | (show leK _ _ _; (refine le_of (by first | exact Nat.le_refl _ | omega) ?_)) | (show roomK _ _ _; (refine room_of (by first | omega | (dsimp only; omega)) ?_)) | (show ltK _ _ _; (refine lt_of (by omega) ?_)) | (show _ ∧ _; (refine ⟨?_, ?_⟩)) | (show keepK _ _ _ _ _; (refine keep_of (by first | exact List.Sublist.refl _ | exact List.Sublist.cons _ (List.Sublist.refl _) | exact List.Sublist.cons _ (List.Sublist.cons _ (List.Sublist.refl _)) | exact List.Sublist.cons _ (List.Sublist.cons _ (List.Sublist.cons _ (List.Sublist.refl _)))) (by first | exact (fun _ _ h => h) | exact (fun _ _ h => h.1) | exact (fun _ _ h => h.1.1)) ?_)) | (show ownK _ _ _ _ _; (refine own_keep ?_))))
    all_goals exact ⟨(k + 1, _), [], ⟨by simp, hlt, by simp only; omega⟩, by simp only; omega, rfl, ⟨rfl, rfl, rfl, trivial⟩, trivial, fun _ _ h => h⟩
  · rw [List.take_of_length_le (by omega)] at he
    (repeat' ((conv => whnf) <;> first | (show Wp _ _ _ _ _ _ _; (refine Wp.go tabOk rfl ?_)) | (show @cmpK _ _ _; (first | refine cmp_yes (by omega) ?_ | refine cmp_no (by omega) ?_ | (refine cmp_both ?_ ?_ <;> intro _))) | (show wrapK _ _ _; (refine wrap_i64 (by omega) (by omega) ?_)) | (show leK _ _ _; (refine le_of (by first | exact Nat.le_refl _ | omega) ?_)) | (show roomK _ _ _; (refine room_of (by first | omega | (dsimp only; omega)) ?_)) | (show ltK _ _ _; (refine lt_of (by omega) ?_)) | (show _ ∧ _; (refine ⟨?_, ?_⟩)) | (show keepK _ _ _ _ _; (refine keep_of (by first | exact List.Sublist.refl _ | exact List.Sublist.cons _ (List.Sublist.refl _) | exact List.Sublist.cons _ (List.Sublist.cons _ (List.Sublist.refl _)) | exact List.Sublist.cons _ (List.Sublist.cons _ (List.Sublist.cons _ (List.Sublist.refl _)))) (by first | exact (fun _ _ h => h) | exact (fun _ _ h => h.1) | exact (fun _ _ h => h.1.1)) ?_)) | (show ownK _ _ _ _ _; (refine own_keep ?_))))
    exact ends_of (fun _ _ h => h) (fun _ => by rw [← he]; rfl) rfl

set_option maxHeartbeats 1000000 in
theorem min_any (w : World) (x : IntsV) (hx : x.ok w) (hl : 1 ≤ x.xs.length) :
    Calls Try.prog 77 #[x.val] w fun e w' => e = .returned (.int .i64 (foldI min x.xs)) ∧ Ext w w' := by
  obtain ⟨ab, ac, xs⟩ := x
  obtain ⟨hx, _, _, hfew⟩ := hx
  simp only [IntsV.val] at *
  obtain ⟨a, rfl⟩ : ∃ a, ab = some a := base_some (j := 0) hx (by rw [ints_length]; omega)
  refine calls_of tab tabOk Try.func77 rfl rfl rfl [] (fun _ => ⟨none, 0⟩) [.c (.slice (some a) xs.length ac)] [] (baseA w) 0 rfl rfl (by show 1 ≤ _; decide) (abs_base w) ?_
  (repeat' ((conv => whnf) <;> first | refine idx_of a 0 rfl rfl hl ?_ | refine ro_row0 (fun R w' h => rows_base h hx) _ _ (ints_get hl) rfl ?_ | (show Wp _ _ _ _ _ _ _; (refine Wp.go tabOk rfl ?_)) | (show @cmpK _ _ _; (first | refine cmp_yes (by omega) ?_ | refine cmp_no (by omega) ?_ | (refine cmp_both ?_ ?_ <;> intro _))) | (show wrapK _ _ _; (refine wrap_i64 (by omega) (by omega) ?_)) | (show leK _ _ _; (refine le_of (by first | exact Nat.le_refl _ | omega) ?_)) | (show roomK _ _ _; (refine room_of (by first | omega | (dsimp only; omega)) ?_)) | (show ltK _ _ _; (refine lt_of (by omega) ?_)) | (show _ ∧ _; (refine ⟨?_, ?_⟩)) | (show keepK _ _ _ _ _; (refine keep_of (by first | exact List.Sublist.refl _ | exact List.Sublist.cons _ (List.Sublist.refl _) | exact List.Sublist.cons _ (List.Sublist.cons _ (List.Sublist.refl _)) | exact List.Sublist.cons _ (List.Sublist.cons _ (List.Sublist.cons _ (List.Sublist.refl _)))) (by first | exact (fun _ _ h => h) | exact (fun _ _ h => h.1) | exact (fun _ _ h => h.1.1)) ?_)) | (show ownK _ _ _ _ _; (refine own_keep ?_))))
  refine Wp.loop (σ := Nat × Int) 0 (fun ⟨k, m⟩ => [(0, .c (.slice (some a) xs.length ac)), (3, .c (.int .i64 m)), (4, .c (.int .i64 k))]) (fun _ => []) (fun _ => baseA w)
      (fun s => 1 ≤ s.1 ∧ s.1 ≤ xs.length ∧ s.2 = foldI min (xs.take s.1)) (fun s => xs.length - s.1) (1, xs[0]) [] (Nat.le_refl _) (fun s => ⟨rfl, rfl⟩) ⟨by simp, hl, by cases xs with | nil => simp at hl | cons y r => simp [foldI]⟩ ⟨rfl, ⟨rfl, rfl, rfl, trivial⟩, trivial, fun _ _ h => h⟩ ?_
  rintro ⟨k, m⟩ ⟨h1, hk, he⟩
  simp only at h1 hk he
  by_cases hlt : k < xs.length
  · have hs := foldI_take (f := min) hlt h1
    rw [← he] at hs
    (repeat' ((conv => whnf) <;> first | refine idx_of a k rfl rfl hlt ?_ | refine ro_row0 (fun R w' h => rows_base h hx) _ _ (ints_get hlt) rfl ?_ | (show Wp _ _ _ _ _ _ _; (refine Wp.go tabOk rfl ?_)) | (show @cmpK _ _ _; (first | refine cmp_yes (by omega) ?_ | refine cmp_no (by omega) ?_ | (refine cmp_both ?_ ?_ <;> intro _))) | (show wrapK _ _ _; (refine wrap_i64 (by omega) (by omega) ?_)) | (show leK _ _ _; (refine le_of (by first | exact Nat.le_refl _ | omega) ?_)) | (show roomK _ _ _; (refine room_of (by first | omega | (dsimp only; omega)) ?_)) | (show ltK _ _ _; (refine lt_of (by omega) ?_)) | (show _ ∧ _; (refine ⟨?_, ?_⟩)) | (show keepK _ _ _ _ _; (refine keep_of (by first | exact List.Sublist.refl _ | exact List.Sublist.cons _ (List.Sublist.refl _) | exact List.Sublist.cons _ (List.Sublist.cons _ (List.Sublist.refl _)) | exact List.Sublist.cons _ (List.Sublist.cons _ (List.Sublist.cons _ (List.Sublist.refl _)))) (by first | exact (fun _ _ h => h) | exact (fun _ _ h => h.1) | exact (fun _ _ h => h.1.1)) ?_)) | (show ownK _ _ _ _ _; (refine own_keep ?_))))
    all_goals exact ⟨(k + 1, _), [], ⟨by simp, hlt, by simp only; omega⟩, by simp only; omega, rfl, ⟨rfl, rfl, rfl, trivial⟩, trivial, fun _ _ h => h⟩
  · rw [List.take_of_length_le (by omega)] at he
    (repeat' ((conv => whnf) <;> first | (show Wp _ _ _ _ _ _ _; (refine Wp.go tabOk rfl ?_)) | (show @cmpK _ _ _; (first | refine cmp_yes (by omega) ?_ | refine cmp_no (by omega) ?_ | (refine cmp_both ?_ ?_ <;> intro _))) | (show wrapK _ _ _; (refine wrap_i64 (by omega) (by omega) ?_)) | (show leK _ _ _; (refine le_of (by first | exact Nat.le_refl _ | omega) ?_)) | (show roomK _ _ _; (refine room_of (by first | omega | (dsimp only; omega)) ?_)) | (show ltK _ _ _; (refine lt_of (by omega) ?_)) | (show _ ∧ _; (refine ⟨?_, ?_⟩)) | (show keepK _ _ _ _ _; (refine keep_of (by first | exact List.Sublist.refl _ | exact List.Sublist.cons _ (List.Sublist.refl _) | exact List.Sublist.cons _ (List.Sublist.cons _ (List.Sublist.refl _)) | exact List.Sublist.cons _ (List.Sublist.cons _ (List.Sublist.cons _ (List.Sublist.refl _)))) (by first | exact (fun _ _ h => h) | exact (fun _ _ h => h.1) | exact (fun _ _ h => h.1.1)) ?_)) | (show ownK _ _ _ _ _; (refine own_keep ?_))))
    exact ends_of (fun _ _ h => h) (fun _ => by rw [← he]; rfl) rfl


set_option maxHeartbeats 1000000 in
theorem clone_any (w : World) (x : IntsV) (hx : x.ok w) (hs : 0 < x.xs.length) :
    Calls Try.prog 45 #[x.val] w fun e w' => ∃ v, e = .returned v ∧ Ext w w' ∧ NewRows w w' v 1 3 (ints x.xs) := by
  obtain ⟨ab, ac, xs⟩ := x
  obtain ⟨a, rfl⟩ : ∃ a, ab = some a := base_some (j := 0) hx.rows (by rw [ints_length]; exact hs)
  obtain ⟨hx, _, _, hfew⟩ := hx
  simp only [IntsV.val] at *
  refine calls_of tab tabOk Try.func45 rfl rfl rfl [] (fun _ => ⟨none, 0⟩) [.c (.slice (some a) xs.length ac)] [] (baseA w) 0 rfl rfl (by show 1 ≤ _; decide) (abs_base w) ?_
  (repeat' ((conv => whnf) <;> first | refine slice_nil_eql (ti 32 rfl) rfl ?_ | (show Wp _ _ _ _ _ _ _; (refine Wp.go tabOk rfl ?_)) | (show @cmpK _ _ _; (first | refine cmp_yes (by omega) ?_ | refine cmp_no (by omega) ?_ | (refine cmp_both ?_ ?_ <;> intro _))) | (show wrapK _ _ _; (refine wrap_i64 (by omega) (by omega) ?_)) | (show leK _ _ _; (refine le_of (by first | exact Nat.le_refl _ | omega) ?_)) | (show roomK _ _ _; (refine room_of (by first | omega | (dsimp only; omega)) ?_)) | (show ltK _ _ _; (refine lt_of (by omega) ?_)) | (show _ ∧ _; (refine ⟨?_, ?_⟩)) | (show keepK _ _ _ _ _; (refine keep_of (by first | exact List.Sublist.refl _ | exact List.Sublist.cons _ (List.Sublist.refl _) | exact List.Sublist.cons _ (List.Sublist.cons _ (List.Sublist.refl _)) | exact List.Sublist.cons _ (List.Sublist.cons _ (List.Sublist.cons _ (List.Sublist.refl _)))) (by first | exact (fun _ _ h => h) | exact (fun _ _ h => h.1) | exact (fun _ _ h => h.1.1)) ?_)) | (show ownK _ _ _ _ _; (refine own_keep ?_))))
  have hil := ints_length xs
  (repeat' ((conv => whnf) <;> first | refine slice_nil_eql (ti 32 rfl) rfl ?_ | refine roRows_in (ints_length xs) (fun R w' h => rows_base h hx) ints_row ?_ | (show Wp _ _ _ _ _ _ _; (refine Wp.go tabOk rfl ?_)) | (show @cmpK _ _ _; (first | refine cmp_yes (by omega) ?_ | refine cmp_no (by omega) ?_ | (refine cmp_both ?_ ?_ <;> intro _))) | (show wrapK _ _ _; (refine wrap_i64 (by omega) (by omega) ?_)) | (show leK _ _ _; (refine le_of (by first | exact Nat.le_refl _ | omega) ?_)) | (show roomK _ _ _; (refine room_of (by first | omega | (dsimp only; omega)) ?_)) | (show ltK _ _ _; (refine lt_of (by omega) ?_)) | (show _ ∧ _; (refine ⟨?_, ?_⟩)) | (show keepK _ _ _ _ _; (refine keep_of (by first | exact List.Sublist.refl _ | exact List.Sublist.cons _ (List.Sublist.refl _) | exact List.Sublist.cons _ (List.Sublist.cons _ (List.Sublist.refl _)) | exact List.Sublist.cons _ (List.Sublist.cons _ (List.Sublist.cons _ (List.Sublist.refl _)))) (by first | exact (fun _ _ h => h) | exact (fun _ _ h => h.1) | exact (fun _ _ h => h.1.1)) ?_)) | (show ownK _ _ _ _ _; (refine own_keep ?_))))
  exact ends_rows (fun _ _ h => h) rfl (.head _) (by simp [ints_length])
end Go.Proofs.Ytajbngkcgbehlaa
