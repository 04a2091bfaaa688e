import Derived.Test.YtlcikmddmcdeeaaRO
namespace Go.Proofs.Ytlcikmddmcdeeaa
open Go.SX Go.RowKit
theorem takesN_range (op : Int) : (1 ≤ op ∧ op ≤ 9) ↔ 0 ≤ takesN op := by
  unfold takesN
  split
  · omega
  · split
    · omega
    · split
      · omega
      · omega
set_option maxRecDepth 20000 in
theorem refStraight_any (w : World) (v : CodeV) (hv : v.ok w) : Calls Try.prog 9 #[v.val] w fun e w' => ∃ c : Bool, (c = true ↔ Straight v.l) ∧ e = .returned (.bool c) ∧ Ext w w' := by
  refine calls_of tab tabOk Try.func9 rfl rfl rfl [] (fun _ => ⟨none, 0⟩) [.c (.slice v.base v.l.length v.cap)] [] (baseA w) 0 rfl rfl (by show 1 ≤ _; decide) (abs_base w) ?_
  have hfew := hv.few
  by_cases hlen : v.l.length < 1 ∨ 2048 < v.l.length
  · (repeat' ((conv => whnf) <;> first | (show Wp _ _ _ _ _ _ _; (refine Wp.go tabOk rfl ?_)) | (show @cmpK _ _ _; (first | refine cmp_yes (by omega) ?_ | refine cmp_no (by omega) ?_ | (refine cmp_both ?_ ?_ <;> intro _))) | (show wrapK _ _ _; (refine wrap_i64 (by omega) (by omega) ?_)) | (show leK _ _ _; (refine le_of (by first | exact Nat.le_refl _ | omega) ?_)) | (show roomK _ _ _; (refine room_of (by first | omega | (dsimp only; omega)) ?_)) | (show ltK _ _ _; (refine lt_of (by omega) ?_)) | (show _ ∧ _; (refine ⟨?_, ?_⟩)) | (show keepK _ _ _ _ _; (refine keep_of (by first | exact List.Sublist.refl _ | exact List.Sublist.cons _ (List.Sublist.refl _) | exact List.Sublist.cons _ (List.Sublist.cons _ (List.Sublist.refl _)) | exact List.Sublist.cons _ (List.Sublist.cons _ (List.Sublist.cons _ (List.Sublist.refl _)))) (by first | exact (fun _ _ h => h) | exact (fun _ _ h => h.1) | exact (fun _ _ h => h.1.1)) ?_)) | (show ownK _ _ _ _ _; (refine own_keep ?_))))
    all_goals (conv => whnf)
    all_goals exact ends_iff (fun _ _ h => h) rfl (iff_no (fun hs => by have := hs.1; have := hs.2.1; omega))
  (repeat' ((conv => whnf) <;> first | (show Wp _ _ _ _ _ _ _; (refine Wp.go tabOk rfl ?_)) | (show @cmpK _ _ _; (first | refine cmp_yes (by omega) ?_ | refine cmp_no (by omega) ?_ | (refine cmp_both ?_ ?_ <;> intro _))) | (show wrapK _ _ _; (refine wrap_i64 (by omega) (by omega) ?_)) | (show leK _ _ _; (refine le_of (by first | exact Nat.le_refl _ | omega) ?_)) | (show roomK _ _ _; (refine room_of (by first | omega | (dsimp only; omega)) ?_)) | (show ltK _ _ _; (refine lt_of (by omega) ?_)) | (show _ ∧ _; (refine ⟨?_, ?_⟩)) | (show keepK _ _ _ _ _; (refine keep_of (by first | exact List.Sublist.refl _ | exact List.Sublist.cons _ (List.Sublist.refl _) | exact List.Sublist.cons _ (List.Sublist.cons _ (List.Sublist.refl _)) | exact List.Sublist.cons _ (List.Sublist.cons _ (List.Sublist.cons _ (List.Sublist.refl _)))) (by first | exact (fun _ _ h => h) | exact (fun _ _ h => h.1) | exact (fun _ _ h => h.1.1)) ?_)) | (show ownK _ _ _ _ _; (refine own_keep ?_))))
  refine Wp.loop (σ := Nat) 0 (fun i => [(0, .c (.slice v.base v.l.length v.cap)), (2, .c (.bool false)), (16, .c (.slice v.base v.l.length v.cap)), (17, .c (.int .i64 v.l.length)), (18, .c (.int .i64 i))]) (fun _ => []) (fun _ => baseA w)
      (fun i => i ≤ v.l.length ∧ goodTo v.l i) (fun i => v.l.length - i) 0 [] (Nat.le_refl _) (fun s => ⟨rfl, rfl⟩) ⟨Nat.zero_le _, fun j x hj => by omega⟩ ⟨rfl, ⟨rfl, rfl, rfl, rfl, rfl, trivial⟩, trivial, fun _ _ h => h⟩ ?_
  rintro i ⟨hi, hg⟩
  by_cases hlt : i < v.l.length
  · obtain ⟨a, ha⟩ := hv.at hlt
    generalize hx : v.l[i] = x
    have hrow : (instrRows v.l)[i]? = some x.cells := by rw [instrRows_get hlt, hx]
    have hbad : ¬ goodAt i x → ¬ Straight v.l := fun hb hs => hb (hs.2.2 i x hlt (by rw [List.getElem?_eq_getElem hlt, hx]))
    have hnext : goodAt i x → goodTo v.l (i + 1) := fun h => goodTo_succ hg hlt (hx ▸ h)
    have hvr : ∀ R w', (baseA w).holds R w' → RowsI w' (some a) 5 (instrRows v.l) := fun R w' h => ha ▸ rows_base h hv.rows
    have hrg := takesN_range x.op
    rw [ha]
    have e0 : (ints []).length = 0 := rfl
    have e1 : (ints [x.a]).length = 1 := rfl
    have e2 : (ints [x.a, x.b]).length = 2 := rfl
    rcases takenL_of x with ⟨hn, ht⟩ | ⟨hn, ht⟩ | ⟨hn, ht⟩ | ⟨hn, ht⟩
    all_goals
      (repeat' ((conv => whnf) <;> first | (show idxK _ _ _ _ _; (refine idx_of a i rfl rfl hlt ?_)) | (show roAggK _ _ _ _; (refine roAgg_row hvr _ hrow rfl ?_)) | (show callK _ 8 _ _ _ _ _; (refine call_new (f := 8) Try.call8 1 3 (fun _ : Unit => ints _) (fun _ => True) (fun ρ w' hw => refTakes_is w' x _ ht) (fun _ _ => ?_))) | (show Wp _ _ _ _ _ _ _; (refine Wp.rounds 3 ?_)) | (show idxRowK _ _ _ _ _ _; (first | refine idxRow_of 0 (by omega) (Nat.le_of_ble_eq_true rfl) (Nat.le_of_ble_eq_true rfl) ?_ | refine idxRow_of 1 (by omega) (Nat.le_of_ble_eq_true rfl) (Nat.le_of_ble_eq_true rfl) ?_)) | (show rowK _ _ _ _; (refine row_of _ _ rfl rfl ?_)) | (show Wp _ _ _ _ _ _ _; (refine Wp.go tabOk rfl ?_)) | (show @cmpK _ _ _; (first | refine cmp_yes (by omega) ?_ | refine cmp_no (by omega) ?_ | (refine cmp_both ?_ ?_ <;> intro _))) | (show wrapK _ _ _; (refine wrap_i64 (by omega) (by omega) ?_)) | (show leK _ _ _; (refine le_of (by first | exact Nat.le_refl _ | omega) ?_)) | (show roomK _ _ _; (refine room_of (by first | omega | (dsimp only; omega)) ?_)) | (show ltK _ _ _; (refine lt_of (by omega) ?_)) | (show _ ∧ _; (refine ⟨?_, ?_⟩)) | (show keepK _ _ _ _ _; (refine keep_of (by first | exact List.Sublist.refl _ | exact List.Sublist.cons _ (List.Sublist.refl _) | exact List.Sublist.cons _ (List.Sublist.cons _ (List.Sublist.refl _)) | exact List.Sublist.cons _ (List.Sublist.cons _ (List.Sublist.cons _ (List.Sublist.refl _)))) (by first | exact (fun _ _ h => h) | exact (fun _ _ h => h.1) | exact (fun _ _ h => h.1.1)) ?_)) | (show ownK _ _ _ _ _; (refine own_keep ?_))))
    all_goals (conv => whnf)
    all_goals first
      | exact ends_iff (fun _ _ h => h) rfl (iff_no (hbad (by unfold goodAt; omega)))
      | exact ⟨i + 1, [], ⟨hlt, hnext (by unfold goodAt; omega)⟩, by omega, rfl, ⟨rfl, rfl, rfl, rfl, rfl, trivial⟩, trivial, fun _ _ h => h⟩
  · (repeat' ((conv => whnf) <;> first | (show Wp _ _ _ _ _ _ _; (refine Wp.go tabOk rfl ?_)) | (show @cmpK _ _ _; (first | refine cmp_yes (by omega) ?_ | refine cmp_no (by omega) ?_ | (refine cmp_both ?_ ?_ <;> intro _))) | (show wrapK _ _ _; (refine wrap_i64 (by omega) (by omega) ?_)) | (show leK _ _ _; (refine le_of (by first | exact Nat.le_refl _ | omega) ?_)) | (show roomK _ _ _; (refine room_of (by first | omega | (dsimp only; omega)) ?_)) | (show ltK _ _ _; (refine lt_of (by omega) ?_)) | (show _ ∧ _; (refine ⟨?_, ?_⟩)) | (show keepK _ _ _ _ _; (refine keep_of (by first | exact List.Sublist.refl _ | exact List.Sublist.cons _ (List.Sublist.refl _) | exact List.Sublist.cons _ (List.Sublist.cons _ (List.Sublist.refl _)) | exact List.Sublist.cons _ (List.Sublist.cons _ (List.Sublist.cons _ (List.Sublist.refl _)))) (by first | exact (fun _ _ h => h) | exact (fun _ _ h => h.1) | exact (fun _ _ h => h.1.1)) ?_)) | (show ownK _ _ _ _ _; (refine own_keep ?_))))
    all_goals (conv => whnf)
    all_goals exact ends_iff (fun _ _ h => h) rfl (iff_yes ⟨by omega, by omega, fun j x hj => hg j x (by omega)⟩)
/-! which instruction takes each result last -/
def lastAt (l : List InstrV) : Nat → List Int
  | 0 => List.replicate l.length 0
  | i + 1 => (takenL (l.getD i zeroI)).foldl (fun m k => m.set k.toNat i) ((lastAt l i).set i i)
theorem fold_set_length {v : Int} : ∀ (ks m : List Int), (ks.foldl (fun m k => m.set k.toNat v) m).length = m.length
  | [], _ => rfl
  | k :: ks, m => by rw [List.foldl_cons, fold_set_length ks, List.length_set]
theorem lastAt_length (l : List InstrV) : ∀ i, (lastAt l i).length = l.length
  | 0 => by simp [lastAt]
  | i + 1 => by unfold lastAt; rw [fold_set_length, List.length_set, lastAt_length l i]
theorem fold_set_get {v : Int} {j : Nat} : ∀ (ks m : List Int), (ks.foldl (fun m k => m.set k.toNat v) m).getD j 0 = v ∨ (ks.foldl (fun m k => m.set k.toNat v) m).getD j 0 = m.getD j 0
  | [], _ => .inr rfl
  | k :: ks, m => by
    rw [List.foldl_cons]
    rcases fold_set_get (v := v) (j := j) ks (m.set k.toNat v) with h | h
    · exact .inl h
    · rw [getD_set] at h
      split at h
      · exact .inl h
      · exact .inr h
theorem fold_set_mem {v : Int} {j : Nat} : ∀ (ks m : List Int), (j : Int) ∈ ks → j < m.length → (ks.foldl (fun m k => m.set k.toNat v) m).getD j 0 = v
  | k :: ks, m, hm, hj => by
    rw [List.foldl_cons]
    by_cases hjk : (j : Int) ∈ ks
    · exact fold_set_mem ks _ hjk (by rw [List.length_set]; exact hj)
    · have hk : k = j := by rcases List.mem_cons.1 hm with h | h; exact h.symm; exact absurd h hjk
      subst hk
      rcases fold_set_get (v := v) (j := j) ks (m.set (j : Int).toNat v) with h | h
      · exact h
      · rw [h, getD_set, if_pos ⟨by simp, by simpa using hj⟩]
theorem lastAt_ge {l : List InstrV} {k j : Nat} {y : InstrV} (hy : l[j]? = some y) (hk : (k : Int) ∈ takenL y) (hkj : k < j) : ∀ {m : Nat}, j < m → m ≤ l.length → (j : Int) ≤ (lastAt l m).getD k 0
  | 0, h, _ => by omega
  | m + 1, h, hm => by
    unfold lastAt
    by_cases hjm : j = m
    · subst hjm
      have e : l.getD j zeroI = y := by rw [List.getD_eq_getElem?_getD, hy]; rfl
      rw [e, fold_set_mem _ _ hk (by rw [List.length_set, lastAt_length]; omega)]
      exact Int.le_refl _
    · have ih := lastAt_ge hy hk hkj (m := m) (by omega) (by omega)
      rcases fold_set_get (v := (m : Int)) (j := k) (takenL (l.getD m zeroI)) ((lastAt l m).set m m) with h1 | h1
      · rw [h1]; omega
      · rw [h1, getD_set, if_neg (fun h => by omega)]; exact ih
def lastL (l : List InstrV) : List Int := (lastAt l l.length).set (l.length - 1) l.length
/-- how many results of ahead of an instruction are taken at it or behind it -/
def cntTo (last : List Int) (i k : Nat) : Nat := ((List.range k).filter fun k' => decide ((i : Int) ≤ last.getD k' 0)).length
theorem cntTo_succ (last : List Int) (i k : Nat) : cntTo last i (k + 1) = cntTo last i k + (if (i : Int) ≤ last.getD k 0 then 1 else 0) := by
  unfold cntTo
  rw [List.range_succ, List.filter_append, List.length_append]
  by_cases h : (i : Int) ≤ last.getD k 0
  · rw [if_pos h, List.filter_cons_of_pos (by simpa using h)]; rfl
  · rw [if_neg h, List.filter_cons_of_neg (by simpa using h)]; rfl
theorem filter_le {p q : Nat → Bool} : ∀ {l : List Nat}, (∀ x ∈ l, p x = true → q x = true) → (l.filter p).length ≤ (l.filter q).length
  | [], _ => Nat.le_refl _
  | x :: l, h => by
    have ih := filter_le (p := p) (q := q) (l := l) fun y hy => h y (by simp [hy])
    by_cases hp : p x = true
    · have hq := h x (by simp) hp
      rw [List.filter_cons_of_pos hp, List.filter_cons_of_pos hq]
      simp only [List.length_cons]; omega
    · rw [List.filter_cons_of_neg hp]
      by_cases hq : q x = true
      · rw [List.filter_cons_of_pos hq]; simp only [List.length_cons]; omega
      · rw [List.filter_cons_of_neg hq]; exact ih
theorem live_le {l : List InstrV} (hs : Straight l) {i : Nat} (hi : i < l.length) : live l i ≤ cntTo (lastL l) i i := by
  refine filter_le fun k hk hn => ?_
  have hki := List.mem_range.1 hk
  have hn : 0 < need l k (i + 1) := by simpa using hn
  unfold need at hn
  rw [if_neg (by omega)] at hn
  have hc : (k : Int) ∈ (l.drop (i + 1)).flatMap takenL := List.count_pos_iff.1 (by omega)
  obtain ⟨y, hy, hky⟩ := List.mem_flatMap.1 hc
  obtain ⟨j, hj⟩ := List.getElem?_of_mem hy
  rw [List.getElem?_drop] at hj
  have hjl := (List.getElem?_eq_some_iff.1 hj).1
  have := lastAt_ge hj hky (by omega) hjl (Nat.le_refl _)
  have e : (lastL l).getD k 0 = (lastAt l l.length).getD k 0 := by
    unfold lastL; rw [getD_set, if_neg (fun h => by omega)]
  refine decide_eq_true ?_
  rw [e]; omega
end Go.Proofs.Ytlcikmddmcdeeaa
