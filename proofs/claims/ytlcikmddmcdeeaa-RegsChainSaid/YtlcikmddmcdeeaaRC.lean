import Derived.Test.YtlcikmddmcdeeaaRB
namespace Go.Proofs.Ytlcikmddmcdeeaa
open Go.SX Go.RowKit
theorem div_two {m : Nat} {x : Int} {K : Int → Prop} (hx : x = (m : Int) - 1) (hm : m ≤ 1000000) (h : K (((m - 1) / 2 : Nat) : Int)) : divK .i64 x 2 K := by
  refine div_any (by decide) ?_
  subst hx
  have e : ((m : Int) - 1).tdiv 2 = (((m - 1) / 2 : Nat) : Int) := by
    rcases m with _ | m
    · rfl
    · have : (((m + 1 : Nat) : Int) - 1) = (m : Int) := by omega
      rw [this, Int.tdiv_eq_ediv_of_nonneg (by omega)]
      simp
  rw [e, IntWalk.i64_in _ ⟨by omega, by omega⟩]
  exact h
section
variable {B : Base} {n : Nat} {H : Heap} {S : Asn} {nx i : Nat} {K : SV → Heap → Asn → Nat → Prop} {xs : List Int}
theorem inv_yes (hi : (i, FreeE xs) ∈ H) {a b : Nat} (ha : a < xs.length) (hb : b < xs.length) (hl : xs.getD a 0 < xs.getD b 0) (h : K (.c (.bool true)) (setH i (FreeE xs) H) S nx) : invokeK ⟨Try.prog, B, n, tab⟩ 36 (.lp i 0 0 0) "Less" [.c (.int .i64 a), .c (.int .i64 b)] H S nx K :=
  inv_less hi ha hb (by rw [decide_eq_true hl]; exact h)
theorem inv_no (hi : (i, FreeE xs) ∈ H) {a b : Nat} (ha : a < xs.length) (hb : b < xs.length) (hl : ¬ xs.getD a 0 < xs.getD b 0) (h : K (.c (.bool false)) (setH i (FreeE xs) H) S nx) : invokeK ⟨Try.prog, B, n, tab⟩ 36 (.lp i 0 0 0) "Less" [.c (.int .i64 a), .c (.int .i64 b)] H S nx K :=
  inv_less hi ha hb (by rw [decide_eq_false hl]; exact h)
end
theorem swapL_perm {xs : List Int} {i j : Nat} (hi : i < xs.length) (hj : j < xs.length) : (swapL xs i j).Perm xs := by
  have e : swapL xs i j = (xs.set i xs[j]).set j xs[i] := by simp [swapL, List.getD, hi, hj]
  rw [e]; exact List.set_set_perm hi hj
theorem swapL_get {xs : List Int} {i j k : Nat} (hi : i < xs.length) (hj : j < xs.length) : (swapL xs i j).getD k 0 = if k = j then xs.getD i 0 else if k = i then xs.getD j 0 else xs.getD k 0 := by
  simp only [swapL, List.getD_eq_getElem?_getD, List.getElem?_set, List.length_set]
  by_cases h1 : k = j
  · subst h1; simp [hj]
  · rw [if_neg (fun h => h1 h.symm), if_neg h1]
    by_cases h2 : k = i
    · subst h2; simp [hi]
    · rw [if_neg (fun h => h2 h.symm), if_neg h2]
/-- the first is the least, but for the place k -/
def LeastBut (xs : List Int) (j : Nat) : Prop := ∀ k, k < xs.length → k ≠ j → xs.getD 0 0 ≤ xs.getD k 0
def Least (xs : List Int) : Prop := ∀ k, k < xs.length → xs.getD 0 0 ≤ xs.getD k 0
theorem leastBut_swap {xs : List Int} {i j : Nat} (hi : i < xs.length) (hj : j < xs.length) (hij : i ≠ j) (hj0 : j ≠ 0) (hlt : xs.getD j 0 < xs.getD i 0) (h : LeastBut xs j) : LeastBut (swapL xs i j) i := by
  intro k hk hki
  rw [swapL_length] at hk
  rw [swapL_get hi hj, swapL_get hi hj, if_neg (Ne.symm hj0), if_neg hki]
  have h1 := h i hi hij
  by_cases h0 : i = 0
  · subst h0
    rw [if_pos rfl]
    split
    · omega
    · rename_i hkj; have := h k hk hkj; omega
  · rw [if_neg (Ne.symm h0)]
    split
    · exact h1
    · rename_i hkj; exact h k hk hkj
theorem free_fin {α : Type} {w : World} {b : Nat} {F : Nat → Prop} {val : α → Value} {rows : α → List Int} {p : α → Prop} {v : SV} {H : Heap} {S : Asn} {nx : Nat} (x : α) (hp : p x) (hv : ∀ ρ, v.rf ρ = val x) (h0 : (0, FreeE (rows x)) ∈ H)
    (hS : ∀ R w', S.holds R w' → (restF w F).holds R w') : finK ⟨w, [(0, boxL b)]⟩ v H S nx (FreePost w b F val rows p) :=
  fin_of fun ρ w' hw => ⟨x, hp, by rw [hv], (ext_end hw List.mem_cons_self hS h0).1, (ext_end hw List.mem_cons_self hS h0).2⟩
set_option maxRecDepth 20000 in
theorem up_any (w : World) (b : Nat) (F : Nat → Prop) (xs : List Int) (j : Nat) (hl : xs.length ≤ 1000000) (hj : j < xs.length) (h : FreeAt xs b F w) :
    Calls Try.prog 18 #[.iface 36 (.pointer (some ⟨b, 0, none⟩)), .int .i64 j] w (FreePost w b F (fun _ : List Int => .tuple #[]) (fun ys => ys) (fun ys => ys.Perm xs ∧ (LeastBut xs j → Least ys))) := by
  
  refine calls_of tab tabOk Try.func18 rfl rfl rfl [(0, boxL b)] (fun _ => boxL b) [.ifc 36 (.lp 0 0 0 0), .c (.int .i64 j)] _ (restF w F) 1 (by simp [SV.rfs, SV.rf, boxL, add_none]) rfl (by show 2 ≤ _; decide) (abs_ext h) ?_
  (repeat' ((conv => whnf) <;> first | (show Wp _ _ _ _ _ _ _; (refine Wp.go tabOk rfl ?_)) | (show @cmpK _ _ _; (first | refine cmp_yes (by omega) ?_ | refine cmp_no (by omega) ?_ | (refine cmp_both ?_ ?_ <;> intro _))) | (show wrapK _ _ _; (refine wrap_i64 (by omega) (by omega) ?_)) | (show leK _ _ _; (refine le_of (by first | exact Nat.le_refl _ | omega) ?_)) | (show roomK _ _ _; (refine room_of (by first | omega | (dsimp only; omega)) ?_)) | (show ltK _ _ _; (refine lt_of (by omega) ?_)) | (show _ ∧ _; (refine ⟨?_, ?_⟩)) | (show keepK _ _ _ _ _; (refine keep_of (by first | exact List.Sublist.refl _ | exact List.Sublist.cons _ (List.Sublist.refl _) | exact List.Sublist.cons _ (List.Sublist.cons _ (List.Sublist.refl _)) | exact List.Sublist.cons _ (List.Sublist.cons _ (List.Sublist.cons _ (List.Sublist.refl _)))) (by first | exact (fun _ _ h => h) | exact (fun _ _ h => h.1) | exact (fun _ _ h => h.1.1)) ?_)) | (show ownK _ _ _ _ _; (refine own_keep ?_))))
  refine Wp.loop (σ := List Int × Nat) 1 (fun ⟨_, j⟩ => [(0, .ifc 36 (.lp 0 0 0 0)), (1, .c (.int .i64 j))]) (fun ⟨ys, _⟩ => [(0, FreeE ys)]) (fun _ => restF w F) (fun ⟨ys, i⟩ => ys.Perm xs ∧ i < ys.length ∧ (LeastBut xs j → LeastBut ys i)) (fun s => s.2) (xs, j) [] (by decide) (fun s => ⟨rfl, rfl⟩)
    ⟨List.Perm.refl _, hj, fun h => h⟩ ⟨rfl, ⟨rfl, rfl, trivial⟩, ⟨List.mem_cons_self, trivial⟩, fun R w' h => h⟩ ?_
  rintro ⟨ys, j'⟩ ⟨hp, hj', hb⟩
  have hyl := hp.length_eq
  by_cases h0 : j' = 0
  · subst h0
    (repeat' ((conv => whnf) <;> first | refine div_two rfl (by omega) ?_ | (show Wp _ _ _ _ _ _ _; (refine Wp.go tabOk rfl ?_)) | (show @cmpK _ _ _; (first | refine cmp_yes (by omega) ?_ | refine cmp_no (by omega) ?_ | (refine cmp_both ?_ ?_ <;> intro _))) | (show wrapK _ _ _; (refine wrap_i64 (by omega) (by omega) ?_)) | (show leK _ _ _; (refine le_of (by first | exact Nat.le_refl _ | omega) ?_)) | (show roomK _ _ _; (refine room_of (by first | omega | (dsimp only; omega)) ?_)) | (show ltK _ _ _; (refine lt_of (by omega) ?_)) | (show _ ∧ _; (refine ⟨?_, ?_⟩)) | (show keepK _ _ _ _ _; (refine keep_of (by first | exact List.Sublist.refl _ | exact List.Sublist.cons _ (List.Sublist.refl _) | exact List.Sublist.cons _ (List.Sublist.cons _ (List.Sublist.refl _)) | exact List.Sublist.cons _ (List.Sublist.cons _ (List.Sublist.cons _ (List.Sublist.refl _)))) (by first | exact (fun _ _ h => h) | exact (fun _ _ h => h.1) | exact (fun _ _ h => h.1.1)) ?_)) | (show ownK _ _ _ _ _; (refine own_keep ?_))))
    conv => whnf
    refine free_fin ys ⟨hp, fun hx k hk => ?_⟩ (fun _ => rfl) List.mem_cons_self (fun _ _ h => h)
    by_cases hk0 : k = 0
    · subst hk0; exact Int.le_refl _
    · exact hb hx k hk hk0
  · have hi : (j' - 1) / 2 < ys.length := by omega
    have hne : (j' - 1) / 2 ≠ j' := by omega
    by_cases hlt : ys.getD j' 0 < ys.getD ((j' - 1) / 2) 0
    · (repeat' ((conv => whnf) <;> first | refine div_two rfl (by omega) ?_ | refine inv_yes List.mem_cons_self hj' hi hlt ?_ | refine inv_swap List.mem_cons_self hi hj' ?_ | (show Wp _ _ _ _ _ _ _; (refine Wp.go tabOk rfl ?_)) | (show @cmpK _ _ _; (first | refine cmp_yes (by omega) ?_ | refine cmp_no (by omega) ?_ | (refine cmp_both ?_ ?_ <;> intro _))) | (show wrapK _ _ _; (refine wrap_i64 (by omega) (by omega) ?_)) | (show leK _ _ _; (refine le_of (by first | exact Nat.le_refl _ | omega) ?_)) | (show roomK _ _ _; (refine room_of (by first | omega | (dsimp only; omega)) ?_)) | (show ltK _ _ _; (refine lt_of (by omega) ?_)) | (show _ ∧ _; (refine ⟨?_, ?_⟩)) | (show keepK _ _ _ _ _; (refine keep_of (by first | exact List.Sublist.refl _ | exact List.Sublist.cons _ (List.Sublist.refl _) | exact List.Sublist.cons _ (List.Sublist.cons _ (List.Sublist.refl _)) | exact List.Sublist.cons _ (List.Sublist.cons _ (List.Sublist.cons _ (List.Sublist.refl _)))) (by first | exact (fun _ _ h => h) | exact (fun _ _ h => h.1) | exact (fun _ _ h => h.1.1)) ?_)) | (show ownK _ _ _ _ _; (refine own_keep ?_))))
      conv => whnf
      exact ⟨(swapL ys ((j' - 1) / 2) j', (j' - 1) / 2), [], ⟨(swapL_perm hi hj').trans hp, by rw [swapL_length]; exact hi, fun hx => leastBut_swap hi hj' hne h0 hlt (hb hx)⟩, by simp only; omega, rfl, ⟨rfl, rfl, trivial⟩, ⟨List.mem_cons_self, trivial⟩, fun R w' h => h⟩
    · (repeat' ((conv => whnf) <;> first | refine div_two rfl (by omega) ?_ | refine inv_no List.mem_cons_self hj' hi hlt ?_ | (show Wp _ _ _ _ _ _ _; (refine Wp.go tabOk rfl ?_)) | (show @cmpK _ _ _; (first | refine cmp_yes (by omega) ?_ | refine cmp_no (by omega) ?_ | (refine cmp_both ?_ ?_ <;> intro _))) | (show wrapK _ _ _; (refine wrap_i64 (by omega) (by omega) ?_)) | (show leK _ _ _; (refine le_of (by first | exact Nat.le_refl _ | omega) ?_)) | (show roomK _ _ _; (refine room_of (by first | omega | (dsimp only; omega)) ?_)) | (show ltK _ _ _; (refine lt_of (by omega) ?_)) | (show _ ∧ _; (refine ⟨?_, ?_⟩)) | (show keepK _ _ _ _ _; (refine keep_of (by first | exact List.Sublist.refl _ | exact List.Sublist.cons _ (List.Sublist.refl _) | exact List.Sublist.cons _ (List.Sublist.cons _ (List.Sublist.refl _)) | exact List.Sublist.cons _ (List.Sublist.cons _ (List.Sublist.cons _ (List.Sublist.refl _)))) (by first | exact (fun _ _ h => h) | exact (fun _ _ h => h.1) | exact (fun _ _ h => h.1.1)) ?_)) | (show ownK _ _ _ _ _; (refine own_keep ?_))))
      conv => whnf
      refine free_fin ys ⟨hp, fun hx k hk => ?_⟩ (fun _ => rfl) List.mem_cons_self (fun _ _ h => h)
      by_cases hk0 : k = j'
      · subst hk0; have := hb hx _ hi hne; omega
      · exact hb hx k hk hk0
end Go.Proofs.Ytlcikmddmcdeeaa
