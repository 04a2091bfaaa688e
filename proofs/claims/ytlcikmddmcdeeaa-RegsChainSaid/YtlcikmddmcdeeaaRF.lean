import Derived.Test.YtlcikmddmcdeeaaRE
namespace Go.Proofs.Ytlcikmddmcdeeaa
open Go.SX Go.RowKit
def instrRows (l : List InstrV) : List (List Value) := l.map InstrV.cells
theorem instrRows_length (l : List InstrV) : (instrRows l).length = l.length := by simp [instrRows]
theorem instrRows_get {l : List InstrV} {k : Nat} (h : k < l.length) : (instrRows l)[k]? = some (l[k]).cells := by simp [instrRows, h]
def i64 (x : Int) : Prop := -9223372036854775808 ≤ x ∧ x ≤ 9223372036854775807
def InstrV.fits (x : InstrV) : Prop := i64 x.op ∧ i64 x.to ∧ i64 x.a ∧ i64 x.b ∧ i64 x.k
/-- a row of instructions: where it stands and what it holds -/
structure CodeV where
  base : Option Addr
  cap : Nat
  l : List InstrV
def CodeV.val (v : CodeV) : Value := .slice v.base v.l.length v.cap
structure CodeV.ok (w : World) (v : CodeV) : Prop where
  rows : RowsI w v.base 5 (instrRows v.l)
  fits : ∀ x ∈ v.l, x.fits
  room : v.l.length ≤ v.cap
  few : v.l.length ≤ 1000000
theorem CodeV.ok.at {w : World} {v : CodeV} (h : v.ok w) {k : Nat} (hk : k < v.l.length) : ∃ a, v.base = some a := base_some (j := k) h.rows (by rw [instrRows_length]; exact hk)
theorem CodeV.ok.later {w w' : World} {R : Nat → Prop} {v : CodeV} (h : v.ok w) (hb : (baseA w).holds R w') : v.ok w' := ⟨rows_base hb h.rows, h.fits, h.room, h.few⟩
/-- an instruction that may stand at a place -/
def goodAt (i : Nat) (x : InstrV) : Prop := x.to = i ∧ 0 ≤ takesN x.op ∧ (takesN x.op < 1 → x.a = 0) ∧ (takesN x.op < 2 → x.b = 0) ∧ (1 ≤ takesN x.op → 0 ≤ x.a ∧ x.a < i) ∧ (2 ≤ takesN x.op → 0 ≤ x.b ∧ x.b < i)
def goodTo (l : List InstrV) (n : Nat) : Prop := ∀ j x, j < n → l[j]? = some x → goodAt j x
def Straight (l : List InstrV) : Prop := 0 < l.length ∧ l.length ≤ 2048 ∧ goodTo l l.length
theorem goodTo_succ {l : List InstrV} {n : Nat} (h : goodTo l n) (hn : n < l.length) (hg : goodAt n l[n]) : goodTo l (n + 1) := by
  intro j x hj hx
  rcases Nat.lt_or_ge j n with h1 | h1
  · exact h j x h1 hx
  · obtain rfl : j = n := by omega
    rw [List.getElem?_eq_getElem hn] at hx
    cases hx; exact hg
theorem takenL_of (x : InstrV) : (takesN x.op = -1 ∧ takenL x = []) ∨ (takesN x.op = 0 ∧ takenL x = []) ∨ (takesN x.op = 1 ∧ takenL x = [x.a]) ∨ (takesN x.op = 2 ∧ takenL x = [x.a, x.b]) := by
  rcases takesN_cases x.op with h | h | h | h
  · exact .inr (.inl ⟨h, by unfold takenL; rw [h]; rfl⟩)
  · exact .inr (.inr (.inl ⟨h, by unfold takenL; rw [h]; rfl⟩))
  · exact .inr (.inr (.inr ⟨h, by unfold takenL; rw [h]; rfl⟩))
  · exact .inl ⟨h, by unfold takenL; rw [h]; rfl⟩
theorem taken_is (w : World) (x : InstrV) (l : List Int) (h : takenL x = l) : Calls Try.prog 13 #[x.val] w fun e w' => ∃ u : Unit, True ∧ ∃ v, e = .returned v ∧ Ext w w' ∧ NewRows w w' v 1 3 (ints l) :=
  (taken_any w x).mono fun e w' ⟨v, h1, h2, h3⟩ => ⟨(), trivial, v, h1, h2, h ▸ h3⟩
theorem ends_iff {B : Base} {b : Bool} {P : Prop} {H : Heap} {S : Asn} {nx : Nat} {w : World} (hb : ∀ R w', S.holds R w' → (baseA B.w0).holds R w') (hw0 : B.w0 = w) (h : b = true ↔ P) : finK B (.c (.bool b)) H S nx (fun e w' => ∃ c : Bool, (c = true ↔ P) ∧ e = .returned (.bool c) ∧ Ext w w') := by
  subst hw0
  exact fin_of fun ρ w' hw => ⟨b, h, rfl, ext_of_abs hw hb⟩
theorem iff_no {P : Prop} (h : ¬ P) : (false = true ↔ P) := ⟨fun h => (by cases h), fun hp => absurd hp h⟩
theorem iff_yes {P : Prop} (h : P) : (true = true ↔ P) := ⟨fun _ => h, fun _ => rfl⟩
set_option maxRecDepth 20000 in
theorem straight_any (w : World) (v : CodeV) (hv : v.ok w) : Calls Try.prog 12 #[v.val] w fun e w' => ∃ c : Bool, (c = true ↔ Straight v.l) ∧ e = .returned (.bool c) ∧ Ext w w' := by
  refine calls_of tab tabOk Try.func12 rfl rfl rfl [] (fun _ => ⟨none, 0⟩) [.c (.slice v.base v.l.length v.cap)] [] (baseA w) 0 rfl rfl (by show 1 ≤ _; decide) (abs_base w) ?_
  (repeat' ((conv => whnf) <;> first | (show Wp _ _ _ _ _ _ _; (refine Wp.go tabOk rfl ?_)) | (show @cmpK _ _ _; (first | refine cmp_yes (by omega) ?_ | refine cmp_no (by omega) ?_ | (refine cmp_both ?_ ?_ <;> intro _))) | (show wrapK _ _ _; (refine wrap_i64 (by omega) (by omega) ?_)) | (show leK _ _ _; (refine le_of (by first | exact Nat.le_refl _ | omega) ?_)) | (show roomK _ _ _; (refine room_of (by first | omega | (dsimp only; omega)) ?_)) | (show ltK _ _ _; (refine lt_of (by omega) ?_)) | (show _ ∧ _; (refine ⟨?_, ?_⟩)) | (show keepK _ _ _ _ _; (refine keep_of (by first | exact List.Sublist.refl _ | exact List.Sublist.cons _ (List.Sublist.refl _) | exact List.Sublist.cons _ (List.Sublist.cons _ (List.Sublist.refl _)) | exact List.Sublist.cons _ (List.Sublist.cons _ (List.Sublist.cons _ (List.Sublist.refl _)))) (by first | exact (fun _ _ h => h) | exact (fun _ _ h => h.1) | exact (fun _ _ h => h.1.1)) ?_)) | (show ownK _ _ _ _ _; (refine own_keep ?_))))
  have hfew := hv.few
  refine Wp.loop (σ := Nat) 0 (fun i => [(0, .c (.slice v.base v.l.length v.cap)), (2, .c (.bool false)), (8, .c (.slice v.base v.l.length v.cap)), (9, .c (.int .i64 v.l.length)), (10, .c (.int .i64 i))]) (fun _ => []) (fun _ => baseA w)
      (fun i => i ≤ v.l.length ∧ goodTo v.l i) (fun i => v.l.length - i) 0 [] (Nat.le_refl _) (fun s => ⟨rfl, rfl⟩) ⟨Nat.zero_le _, fun j x hj => by omega⟩ ⟨rfl, ⟨rfl, rfl, rfl, rfl, rfl, trivial⟩, trivial, fun _ _ h => h⟩ ?_
  rintro i ⟨hi, hg⟩
  by_cases hlt : i < v.l.length
  · obtain ⟨a, ha⟩ := hv.at hlt
    generalize hx : v.l[i] = x
    have hrow : (instrRows v.l)[i]? = some x.cells := by rw [instrRows_get hlt, hx]
    have hbad : ¬ goodAt i x → ¬ Straight v.l := fun hb hs => hb (hs.2.2 i x hlt (by rw [List.getElem?_eq_getElem hlt, hx]))
    have hnext : goodAt i x → goodTo v.l (i + 1) := fun h => goodTo_succ hg hlt (hx ▸ h)
    rw [ha]
    have e0 : (ints []).length = 0 := rfl
    have e1 : (ints [x.a]).length = 1 := rfl
    have e2 : (ints [x.a, x.b]).length = 2 := rfl
    rcases takenL_of x with ⟨hn, ht⟩ | ⟨hn, ht⟩ | ⟨hn, ht⟩ | ⟨hn, ht⟩
    · (repeat' ((conv => whnf) <;> first | (show idxK _ _ _ _ _; (refine idx_of a i rfl rfl hlt ?_)) | refine roAgg_row (fun R w' h => ha ▸ rows_base h hv.rows) _ hrow rfl ?_ | (show callK _ 17 _ _ _ _ _; (refine call_pure (f := 17) Try.call17 _ (fun ρ w' hw => takes_any w' x.op) ?_)) | (show Wp _ _ _ _ _ _ _; (refine Wp.go tabOk rfl ?_)) | (show @cmpK _ _ _; (first | refine cmp_yes (by omega) ?_ | refine cmp_no (by omega) ?_ | (refine cmp_both ?_ ?_ <;> intro _))) | (show wrapK _ _ _; (refine wrap_i64 (by omega) (by omega) ?_)) | (show leK _ _ _; (refine le_of (by first | exact Nat.le_refl _ | omega) ?_)) | (show roomK _ _ _; (refine room_of (by first | omega | (dsimp only; omega)) ?_)) | (show ltK _ _ _; (refine lt_of (by omega) ?_)) | (show _ ∧ _; (refine ⟨?_, ?_⟩)) | (show keepK _ _ _ _ _; (refine keep_of (by first | exact List.Sublist.refl _ | exact List.Sublist.cons _ (List.Sublist.refl _) | exact List.Sublist.cons _ (List.Sublist.cons _ (List.Sublist.refl _)) | exact List.Sublist.cons _ (List.Sublist.cons _ (List.Sublist.cons _ (List.Sublist.refl _)))) (by first | exact (fun _ _ h => h) | exact (fun _ _ h => h.1) | exact (fun _ _ h => h.1.1)) ?_)) | (show ownK _ _ _ _ _; (refine own_keep ?_))))
      all_goals (conv => whnf)
      all_goals first
        | exact ends_iff (fun _ _ h => h) rfl (iff_no (hbad (by unfold goodAt; omega)))
        | exact ⟨i + 1, [], ⟨hlt, hnext (by unfold goodAt; omega)⟩, by omega, rfl, ⟨rfl, rfl, rfl, rfl, rfl, trivial⟩, trivial, fun _ _ h => h⟩
    · (repeat' ((conv => whnf) <;> first | (show idxK _ _ _ _ _; (refine idx_of a i rfl rfl hlt ?_)) | refine roAgg_row (fun R w' h => ha ▸ rows_base h hv.rows) _ hrow rfl ?_ | (show callK _ 17 _ _ _ _ _; (refine call_pure (f := 17) Try.call17 _ (fun ρ w' hw => takes_any w' x.op) ?_)) | (show callK _ 13 _ _ _ _ _; (refine call_new (f := 13) Try.call13 1 3 (fun _ : Unit => ints []) (fun _ => True) (fun ρ w' hw => taken_is w' x [] ht) (fun _ _ => ?_))) | (show Wp _ _ _ _ _ _ _; (refine Wp.rounds 3 ?_)) | (show idxRowK _ _ _ _ _ _; (first | refine idxRow_of 0 (by omega) (Nat.le_of_ble_eq_true rfl) (Nat.le_of_ble_eq_true rfl) ?_ | refine idxRow_of 1 (by omega) (Nat.le_of_ble_eq_true rfl) (Nat.le_of_ble_eq_true rfl) ?_)) | (show rowK _ _ _ _; (refine row_of _ _ rfl rfl ?_)) | (show Wp _ _ _ _ _ _ _; (refine Wp.go tabOk rfl ?_)) | (show @cmpK _ _ _; (first | refine cmp_yes (by omega) ?_ | refine cmp_no (by omega) ?_ | (refine cmp_both ?_ ?_ <;> intro _))) | (show wrapK _ _ _; (refine wrap_i64 (by omega) (by omega) ?_)) | (show leK _ _ _; (refine le_of (by first | exact Nat.le_refl _ | omega) ?_)) | (show roomK _ _ _; (refine room_of (by first | omega | (dsimp only; omega)) ?_)) | (show ltK _ _ _; (refine lt_of (by omega) ?_)) | (show _ ∧ _; (refine ⟨?_, ?_⟩)) | (show keepK _ _ _ _ _; (refine keep_of (by first | exact List.Sublist.refl _ | exact List.Sublist.cons _ (List.Sublist.refl _) | exact List.Sublist.cons _ (List.Sublist.cons _ (List.Sublist.refl _)) | exact List.Sublist.cons _ (List.Sublist.cons _ (List.Sublist.cons _ (List.Sublist.refl _)))) (by first | exact (fun _ _ h => h) | exact (fun _ _ h => h.1) | exact (fun _ _ h => h.1.1)) ?_)) | (show ownK _ _ _ _ _; (refine own_keep ?_))))
      all_goals (conv => whnf)
      all_goals first
        | exact ends_iff (fun _ _ h => h) rfl (iff_no (hbad (by unfold goodAt; omega)))
        | exact ⟨i + 1, [], ⟨hlt, hnext (by unfold goodAt; omega)⟩, by omega, rfl, ⟨rfl, rfl, rfl, rfl, rfl, trivial⟩, trivial, fun _ _ h => h⟩
    · (repeat' ((conv => whnf) <;> first | (show idxK _ _ _ _ _; (refine idx_of a i rfl rfl hlt ?_)) | refine roAgg_row (fun R w' h => ha ▸ rows_base h hv.rows) _ hrow rfl ?_ | (show callK _ 17 _ _ _ _ _; (refine call_pure (f := 17) Try.call17 _ (fun ρ w' hw => takes_any w' x.op) ?_)) | (show callK _ 13 _ _ _ _ _; (refine call_new (f := 13) Try.call13 1 3 (fun _ : Unit => ints [x.a]) (fun _ => True) (fun ρ w' hw => taken_is w' x [x.a] ht) (fun _ _ => ?_))) | (show Wp _ _ _ _ _ _ _; (refine Wp.rounds 3 ?_)) | (show idxRowK _ _ _ _ _ _; (first | refine idxRow_of 0 (by omega) (Nat.le_of_ble_eq_true rfl) (Nat.le_of_ble_eq_true rfl) ?_ | refine idxRow_of 1 (by omega) (Nat.le_of_ble_eq_true rfl) (Nat.le_of_ble_eq_true rfl) ?_)) | (show rowK _ _ _ _; (refine row_of _ _ rfl rfl ?_)) | (show Wp _ _ _ _ _ _ _; (refine Wp.go tabOk rfl ?_)) | (show @cmpK _ _ _; (first | refine cmp_yes (by omega) ?_ | refine cmp_no (by omega) ?_ | (refine cmp_both ?_ ?_ <;> intro _))) | (show wrapK _ _ _; (refine wrap_i64 (by omega) (by omega) ?_)) | (show leK _ _ _; (refine le_of (by first | exact Nat.le_refl _ | omega) ?_)) | (show roomK _ _ _; (refine room_of (by first | omega | (dsimp only; omega)) ?_)) | (show ltK _ _ _; (refine lt_of (by omega) ?_)) | (show _ ∧ _; (refine ⟨?_, ?_⟩)) | (show keepK _ _ _ _ _; (refine keep_of (by first | exact List.Sublist.refl _ | exact List.Sublist.cons _ (List.Sublist.refl _) | exact List.Sublist.cons _ (List.Sublist.cons _ (List.Sublist.refl _)) | exact List.Sublist.cons _ (List.Sublist.cons _ (List.Sublist.cons _ (List.Sublist.refl _)))) (by first | exact (fun _ _ h => h) | exact (fun _ _ h => h.1) | exact (fun _ _ h => h.1.1)) ?_)) | (show ownK _ _ _ _ _; (refine own_keep ?_))))
      all_goals (conv => whnf)
      all_goals first
        | exact ends_iff (fun _ _ h => h) rfl (iff_no (hbad (by unfold goodAt; omega)))
        | exact ⟨i + 1, [], ⟨hlt, hnext (by unfold goodAt; omega)⟩, by omega, rfl, ⟨rfl, rfl, rfl, rfl, rfl, trivial⟩, trivial, fun _ _ h => h⟩
    · (repeat' ((conv => whnf) <;> first | (show idxK _ _ _ _ _; (refine idx_of a i rfl rfl hlt ?_)) | refine roAgg_row (fun R w' h => ha ▸ rows_base h hv.rows) _ hrow rfl ?_ | (show callK _ 17 _ _ _ _ _; (refine call_pure (f := 17) Try.call17 _ (fun ρ w' hw => takes_any w' x.op) ?_)) | (show callK _ 13 _ _ _ _ _; (refine call_new (f := 13) Try.call13 1 3 (fun _ : Unit => ints [x.a, x.b]) (fun _ => True) (fun ρ w' hw => taken_is w' x [x.a, x.b] ht) (fun _ _ => ?_))) | (show Wp _ _ _ _ _ _ _; (refine Wp.rounds 3 ?_)) | (show idxRowK _ _ _ _ _ _; (first | refine idxRow_of 0 (by omega) (Nat.le_of_ble_eq_true rfl) (Nat.le_of_ble_eq_true rfl) ?_ | refine idxRow_of 1 (by omega) (Nat.le_of_ble_eq_true rfl) (Nat.le_of_ble_eq_true rfl) ?_)) | (show rowK _ _ _ _; (refine row_of _ _ rfl rfl ?_)) | (show Wp _ _ _ _ _ _ _; (refine Wp.go tabOk rfl ?_)) | (show @cmpK _ _ _; (first | refine cmp_yes (by omega) ?_ | refine cmp_no (by omega) ?_ | (refine cmp_both ?_ ?_ <;> intro _))) | (show wrapK _ _ _; (refine wrap_i64 (by omega) (by omega) ?_)) | (show leK _ _ _; (refine le_of (by first | exact Nat.le_refl _ | omega) ?_)) | (show roomK _ _ _; (refine room_of (by first | omega | (dsimp only; omega)) ?_)) | (show ltK _ _ _; (refine lt_of (by omega) ?_)) | (show _ ∧ _; (refine ⟨?_, ?_⟩)) | (show keepK _ _ _ _ _; (refine keep_of (by first | exact List.Sublist.refl _ | exact List.Sublist.cons _ (List.Sublist.refl _) | exact List.Sublist.cons _ (List.Sublist.cons _ (List.Sublist.refl _)) | exact List.Sublist.cons _ (List.Sublist.cons _ (List.Sublist.cons _ (List.Sublist.refl _)))) (by first | exact (fun _ _ h => h) | exact (fun _ _ h => h.1) | exact (fun _ _ h => h.1.1)) ?_)) | (show ownK _ _ _ _ _; (refine own_keep ?_))))
      all_goals (conv => whnf)
      all_goals first
        | exact ends_iff (fun _ _ h => h) rfl (iff_no (hbad (by unfold goodAt; omega)))
        | exact ⟨i + 1, [], ⟨hlt, hnext (by unfold goodAt; omega)⟩, by omega, rfl, ⟨rfl, rfl, rfl, rfl, rfl, trivial⟩, trivial, fun _ _ h => h⟩
  · (repeat' ((conv => whnf) <;> first | (show Wp _ _ _ _ _ _ _; (refine Wp.go tabOk rfl ?_)) | (show @cmpK _ _ _; (first | refine cmp_yes (by omega) ?_ | refine cmp_no (by omega) ?_ | (refine cmp_both ?_ ?_ <;> intro _))) | (show wrapK _ _ _; (refine wrap_i64 (by omega) (by omega) ?_)) | (show leK _ _ _; (refine le_of (by first | exact Nat.le_refl _ | omega) ?_)) | (show roomK _ _ _; (refine room_of (by first | omega | (dsimp only; omega)) ?_)) | (show ltK _ _ _; (refine lt_of (by omega) ?_)) | (show _ ∧ _; (refine ⟨?_, ?_⟩)) | (show keepK _ _ _ _ _; (refine keep_of (by first | exact List.Sublist.refl _ | exact List.Sublist.cons _ (List.Sublist.refl _) | exact List.Sublist.cons _ (List.Sublist.cons _ (List.Sublist.refl _)) | exact List.Sublist.cons _ (List.Sublist.cons _ (List.Sublist.cons _ (List.Sublist.refl _)))) (by first | exact (fun _ _ h => h) | exact (fun _ _ h => h.1) | exact (fun _ _ h => h.1.1)) ?_)) | (show ownK _ _ _ _ _; (refine own_keep ?_))))
    all_goals (conv => whnf)
    all_goals first
      | exact ends_iff (fun _ _ h => h) rfl (iff_no (fun hs => by have := hs.1; have := hs.2.1; omega))
      | exact ends_iff (fun _ _ h => h) rfl (iff_yes ⟨by omega, by omega, fun j x hj => hg j x (by omega)⟩)
end Go.Proofs.Ytlcikmddmcdeeaa
