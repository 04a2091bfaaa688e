import Derived.Test.YtajbngkcgbehlaaGI
namespace Go.Proofs.Ytajbngkcgbehlaa
open Go.SX Go.RowKit
theorem slice_nil {base : Option Addr} {len cap size : Nat} {K : SV → Prop} (hb : base = none) (hl : len = 0) (h : K (.c (.slice none 0 0))) : sliceK base len cap size none (some (len : Int)) (some (len : Int)) K := by
  subst hb hl
  exact slice_full (Nat.zero_le _) h
theorem slice_some {base : Option Addr} {len cap size : Nat} {K : SV → Prop} {a : Addr} (hb : base = some a) (hc : len ≤ cap) (h : K (.c (.slice (some a) len len))) : sliceK base len cap size none (some (len : Int)) (some (len : Int)) K := by
  subst hb
  exact slice_full hc h
/-- one's own numbers -/
theorem own_ints {B : Base} {ρ : Nat → SX.Loc} {nx : Nat} {H : Heap} {S : Asn} {w : World} {i m : Nat} {T : TypeId} {R : List (List Value)} {xs : List Int} (hw : Abs B ρ nx H S w) (he : (i, Ent.rows R 1 T) ∈ H) (hR : R = ints xs) (hm : m = xs.length) (hf : ∀ x ∈ xs, i64 x) (hl : xs.length ≤ 1000000) :
    ∃ v : IntsV, (SV.rfs ρ [.os i m]).toArray = #[v.val] ∧ v.xs = xs ∧ v.ok w := by
  subst hR hm
  refine ⟨⟨(ρ i).base, (ρ i).cap, xs⟩, rfl, rfl, rows_of_abs hw he, hf, ?_, hl⟩
  obtain ⟨R, φ, hw⟩ := hw
  have := (hw.ent _ he).2.1
  simpa [ints_length] using this
theorem max_own {B : Base} {ρ : Nat → SX.Loc} {nx : Nat} {H : Heap} {S : Asn} {w : World} {i m : Nat} {T : TypeId} {R : List (List Value)} {xs : List Int} (hw : Abs B ρ nx H S w) (he : (i, Ent.rows R 1 T) ∈ H) (hR : R = ints xs) (hm : m = xs.length) (hf : ∀ x ∈ xs, i64 x) (hl : xs.length ≤ 1000000) (h1 : 1 ≤ xs.length) :
    Calls Try.prog 78 (SV.rfs ρ [.os i m]).toArray w fun e w' => e = .returned (.int .i64 (foldI max xs)) ∧ Ext w w' := by
  obtain ⟨v, e1, rfl, hv⟩ := own_ints hw he hR hm hf hl
  rw [e1]; exact max_any w v hv h1
theorem min_own {B : Base} {ρ : Nat → SX.Loc} {nx : Nat} {H : Heap} {S : Asn} {w : World} {i m : Nat} {T : TypeId} {R : List (List Value)} {xs : List Int} (hw : Abs B ρ nx H S w) (he : (i, Ent.rows R 1 T) ∈ H) (hR : R = ints xs) (hm : m = xs.length) (hf : ∀ x ∈ xs, i64 x) (hl : xs.length ≤ 1000000) (h1 : 1 ≤ xs.length) :
    Calls Try.prog 77 (SV.rfs ρ [.os i m]).toArray w fun e w' => e = .returned (.int .i64 (foldI min xs)) ∧ Ext w w' := by
  obtain ⟨v, e1, rfl, hv⟩ := own_ints hw he hR hm hf hl
  rw [e1]; exact min_any w v hv h1

theorem foldl_max_le : ∀ (xs : List Int) (a b : Int), xs.foldl max a ≤ b ↔ a ≤ b ∧ ∀ x ∈ xs, x ≤ b
  | [], a, b => by simp
  | x :: r, a, b => by
    rw [List.foldl_cons, foldl_max_le r]
    simp only [List.mem_cons, forall_eq_or_imp]
    constructor
    · rintro ⟨h1, h2⟩; exact ⟨by omega, by omega, h2⟩
    · rintro ⟨h1, h2, h3⟩; exact ⟨by omega, h3⟩
theorem le_foldl_min : ∀ (xs : List Int) (a b : Int), b ≤ xs.foldl min a ↔ b ≤ a ∧ ∀ x ∈ xs, b ≤ x
  | [], a, b => by simp
  | x :: r, a, b => by
    rw [List.foldl_cons, le_foldl_min r]
    simp only [List.mem_cons, forall_eq_or_imp]
    constructor
    · rintro ⟨h1, h2⟩; exact ⟨by omega, by omega, h2⟩
    · rintro ⟨h1, h2, h3⟩; exact ⟨by omega, h3⟩
theorem foldI_max_le {xs : List Int} {b : Int} (h : xs ≠ []) : foldI max xs ≤ b ↔ ∀ x ∈ xs, x ≤ b := by
  cases xs with
  | nil => exact absurd rfl h
  | cons x r => simp only [foldI, foldl_max_le, List.mem_cons, forall_eq_or_imp]
theorem le_foldI_min {xs : List Int} {b : Int} (h : xs ≠ []) : b ≤ foldI min xs ↔ ∀ x ∈ xs, b ≤ x := by
  cases xs with
  | nil => exact absurd rfl h
  | cons x r => simp only [foldI, le_foldl_min, List.mem_cons, forall_eq_or_imp]
theorem nearL_fold (xs : List Int) : nearL xs = decide (foldI max (xs ++ [0]) ≤ 1048576 ∧ -1048576 ≤ foldI min (xs ++ [0])) := by
  rw [nearL, Bool.eq_iff_iff]
  simp only [List.all_eq_true, decide_eq_true_eq]
  rw [foldI_max_le (by simp), le_foldI_min (by simp)]
  simp only [List.mem_append, List.mem_singleton]
  constructor
  · intro h
    exact ⟨fun x hx => hx.elim (fun g => (h x g).2) (fun g => by omega), fun x hx => hx.elim (fun g => (h x g).1) (fun g => by omega)⟩
  · rintro ⟨h1, h2⟩ x hx
    exact ⟨h2 x (.inl hx), h1 x (.inl hx)⟩
@[irreducible] def nearB (n : NodeV) : Bool := nearL n.data.xs && nearL n.bias.xs && nearL [n.lo, n.hi] && decide (n.lo ≤ n.hi)

theorem base_cases {w : World} {v : IntsV} (h : v.ok w) : (v.base = none ∧ v.xs = []) ∨ ∃ a, v.base = some a := by
  cases hb : v.base with
  | none =>
    left
    refine ⟨rfl, ?_⟩
    rcases h.rows with h | ⟨a, ha, _⟩
    · simpa [ints] using h
    · rw [hb] at ha; cases ha
  | some a => exact .inr ⟨a, rfl⟩
theorem i64_app {xs : List Int} (h : ∀ x ∈ xs, -9223372036854775808 ≤ x ∧ x ≤ 9223372036854775807) : ∀ x ∈ xs ++ [0], i64 x := by
  intro x hx
  rcases List.mem_append.1 hx with hx | hx
  · exact h x hx
  · simp at hx; subst hx; exact ⟨by decide, by decide⟩
set_option maxRecDepth 20000 in
set_option maxHeartbeats 8000000 in
theorem near_any (w : World) (n : NodeV) (hn : n.ok w) (hd : n.data.xs.length ≤ 5000) (hbi : n.bias.xs.length ≤ 5000) (at_ : Int) (sv : Value) :
    Calls Try.prog 44 #[nodeVal n at_ sv] w fun e w' => e = .returned (.bool (nearB n)) ∧ Ext w w' := by
  have hD := nearL_fold n.data.xs
  have hBi := nearL_fold n.bias.xs
  have hL := nearL_fold [n.lo, n.hi]
  have fD := i64_app hn.data.fits
  have fB := i64_app hn.bias.fits
  have fL : ∀ x ∈ [n.lo, n.hi] ++ [0], i64 x := i64_app (by intro x hx; simp at hx; rcases hx with rfl | rfl; exact hn.loFits; exact hn.hiFits)
  have hfD := hn.data.room
  have hfB := hn.bias.room
  have hDn : n.data.xs = [] → foldI max (n.data.xs ++ [0]) = 0 ∧ foldI min (n.data.xs ++ [0]) = 0 := fun h => by rw [h]; exact ⟨rfl, rfl⟩
  have hBn : n.bias.xs = [] → foldI max (n.bias.xs ++ [0]) = 0 ∧ foldI min (n.bias.xs ++ [0]) = 0 := fun h => by rw [h]; exact ⟨rfl, rfl⟩
  rcases base_cases hn.data with ⟨bD, xD⟩ | ⟨aD, bD⟩ <;> rcases base_cases hn.bias with ⟨bB, xB⟩ | ⟨aB, bB⟩
  all_goals
    try have qD := hDn xD
    try have qB := hBn xB
    refine calls_of tab tabOk Try.func44 rfl rfl rfl [] (fun _ => ⟨none, 0⟩) [.agg [.c (.int .i64 n.kind), .c (.int .i64 n.a), .c (.int .i64 n.b), .c n.shape.val, .c (.int .i64 n.lo), .c (.int .i64 n.hi), .c (.int .i64 n.size), .c n.data.val, .c n.bias.val, .c (.int .i64 at_), .c sv]] [] (baseA w) 0 rfl rfl (by show 1 ≤ _; decide) (abs_base w) ?_
    (repeat' ((conv => whnf) <;> first | (show Wp _ _ _ _ _ _ _; (refine Wp.go tabOk rfl ?_)) | (show @cmpK _ _ _; (first | refine cmp_yes (by omega) ?_ | refine cmp_no (by omega) ?_ | (refine cmp_both ?_ ?_ <;> intro _))) | (show wrapK _ _ _; (refine wrap_i64 (by omega) (by omega) ?_)) | (show leK _ _ _; (refine le_of (by first | exact Nat.le_refl _ | omega) ?_)) | (show roomK _ _ _; (refine room_of (by first | omega | (dsimp only; omega)) ?_)) | (show ltK _ _ _; (refine lt_of (by omega) ?_)) | (show _ ∧ _; (refine ⟨?_, ?_⟩)) | (show keepK _ _ _ _ _; (refine keep_of (by first | exact List.Sublist.refl _ | exact List.Sublist.cons _ (List.Sublist.refl _) | exact List.Sublist.cons _ (List.Sublist.cons _ (List.Sublist.refl _)) | exact List.Sublist.cons _ (List.Sublist.cons _ (List.Sublist.cons _ (List.Sublist.refl _)))) (by first | exact (fun _ _ h => h) | exact (fun _ _ h => h.1) | exact (fun _ _ h => h.1.1)) ?_)) | (show ownK _ _ _ _ _; (refine own_keep ?_))))
    refine Wp.freeze 1 (xs := ints [n.lo, n.hi]) (k := 1) (T := 3) (List.mem_cons_of_mem _ List.mem_cons_self) ?_
    intro l hl
    have hl2 : 2 ≤ l.cap := hl
    refine Wp.know (p := ∃ a, l.base = some a ∧ ∀ R w', ((baseA w).and (rowsA l.base 1 (ints [n.lo, n.hi]))).holds R w' → RowsI w' (some a) 1 (ints [n.lo, n.hi])) ?_ ?_
    · rintro ρ w' ⟨R, φ, hw⟩
      obtain ⟨b, off, hb, _⟩ := hw.asn.2.2.resolve_left (by simp [ints])
      exact ⟨_, hb, fun R' w'' h => by rw [← hb]; exact rowsA_in h.2⟩
    rintro ⟨aL, bL, hRL⟩
    refine Wp.rounds 4 ?_
    (repeat' ((conv => whnf) <;> first | (show sliceK _ _ _ _ _ _ _ _; (first | refine slice_nil bD (by simp [xD]) ?_ | refine slice_nil bB (by simp [xB]) ?_ | refine slice_some bD (by omega) ?_ | refine slice_some bB (by omega) ?_ | refine slice_some bL (by omega) ?_)) | (show roomK _ _ _; (refine room_of (by first | omega | decide | (show (n.data.xs.length + 1) * 8 ≤ 140737488355328; omega) | (show (n.bias.xs.length + 1) * 8 ≤ 140737488355328; omega)) ?_)) | (show roRowsK _ _ _ _ _; (first | refine roRows_in (ints_length _) (fun R w' h => hn.data.at_ bD R w' h.1) ints_row ?_ | refine roRows_in (ints_length _) (fun R w' h => hn.bias.at_ bB R w' h.1) ints_row ?_ | refine roRows_in (by simp [ints]) hRL ints_row ?_)) | (show callK _ 78 _ _ _ _ _; (refine call_pure (f := 78) Try.call78 (.int .i64 (foldI max (n.data.xs ++ [0]))) (fun ρ w' hw => max_own hw List.mem_cons_self (xs := n.data.xs ++ [0]) (by first | (simp only [ints, List.map_append]; rfl) | (simp only [ints, List.map_append, xD]; rfl)) (by first | (rw [List.length_append]; rfl) | (rw [List.length_append, xD]; rfl) | (rw [List.length_append, xB]; rfl)) fD (by simp; omega) (by simp)) ?_)) | (show callK _ 78 _ _ _ _ _; (refine call_pure (f := 78) Try.call78 (.int .i64 (foldI max (n.bias.xs ++ [0]))) (fun ρ w' hw => max_own hw List.mem_cons_self (xs := n.bias.xs ++ [0]) (by first | (simp only [ints, List.map_append]; rfl) | (simp only [ints, List.map_append, xB]; rfl)) (by first | (rw [List.length_append]; rfl) | (rw [List.length_append, xD]; rfl) | (rw [List.length_append, xB]; rfl)) fB (by simp; omega) (by simp)) ?_)) | (show callK _ 78 _ _ _ _ _; (refine call_pure (f := 78) Try.call78 (.int .i64 (foldI max ([n.lo, n.hi] ++ [0]))) (fun ρ w' hw => max_own hw List.mem_cons_self (xs := [n.lo, n.hi] ++ [0]) rfl rfl fL (by simp) (by simp)) ?_)) | (show callK _ 77 _ _ _ _ _; (refine call_pure (f := 77) Try.call77 (.int .i64 (foldI min (n.data.xs ++ [0]))) (fun ρ w' hw => min_own hw List.mem_cons_self (xs := n.data.xs ++ [0]) (by first | (simp only [ints, List.map_append]; rfl) | (simp only [ints, List.map_append, xD]; rfl)) (by first | (rw [List.length_append]; rfl) | (rw [List.length_append, xD]; rfl) | (rw [List.length_append, xB]; rfl)) fD (by simp; omega) (by simp)) ?_)) | (show callK _ 77 _ _ _ _ _; (refine call_pure (f := 77) Try.call77 (.int .i64 (foldI min (n.bias.xs ++ [0]))) (fun ρ w' hw => min_own hw List.mem_cons_self (xs := n.bias.xs ++ [0]) (by first | (simp only [ints, List.map_append]; rfl) | (simp only [ints, List.map_append, xB]; rfl)) (by first | (rw [List.length_append]; rfl) | (rw [List.length_append, xD]; rfl) | (rw [List.length_append, xB]; rfl)) fB (by simp; omega) (by simp)) ?_)) | (show callK _ 77 _ _ _ _ _; (refine call_pure (f := 77) Try.call77 (.int .i64 (foldI min ([n.lo, n.hi] ++ [0]))) (fun ρ w' hw => min_own hw List.mem_cons_self (xs := [n.lo, n.hi] ++ [0]) rfl rfl fL (by simp) (by simp)) ?_)) | (show Wp _ _ _ _ _ _ _; (refine Wp.go tabOk rfl ?_)) | (show @cmpK _ _ _; (first | refine cmp_yes (by omega) ?_ | refine cmp_no (by omega) ?_ | (refine cmp_both ?_ ?_ <;> intro _))) | (show wrapK _ _ _; (refine wrap_i64 (by omega) (by omega) ?_)) | (show leK _ _ _; (refine le_of (by first | exact Nat.le_refl _ | omega) ?_)) | (show roomK _ _ _; (refine room_of (by first | omega | (dsimp only; omega)) ?_)) | (show ltK _ _ _; (refine lt_of (by omega) ?_)) | (show _ ∧ _; (refine ⟨?_, ?_⟩)) | (show keepK _ _ _ _ _; (refine keep_of (by first | exact List.Sublist.refl _ | exact List.Sublist.cons _ (List.Sublist.refl _) | exact List.Sublist.cons _ (List.Sublist.cons _ (List.Sublist.refl _)) | exact List.Sublist.cons _ (List.Sublist.cons _ (List.Sublist.cons _ (List.Sublist.refl _)))) (by first | exact (fun _ _ h => h) | exact (fun _ _ h => h.1) | exact (fun _ _ h => h.1.1)) ?_)) | (show ownK _ _ _ _ _; (refine own_keep ?_))))
    all_goals (conv => whnf)
    all_goals (refine ends_bool (B := ⟨w, []⟩) (w := w) (S := (baseA w).and (rowsA l.base 1 (ints [n.lo, n.hi]))) (fun _ _ h => h.1) rfl ?_; unfold nearB; (first | rw [show nearL n.data.xs = true from by rw [xD]; rfl] | rw [hD]); (first | rw [show nearL n.bias.xs = true from by rw [xB]; rfl] | rw [hBi]); rw [hL])
    all_goals first | (simp only [Bool.and_eq_false_iff, decide_eq_false_iff_not]; omega) | ((repeat rw [decide_eq_true (by omega)]); rfl)
end Go.Proofs.Ytajbngkcgbehlaa
