import Derived.Test.YtajbngkcgbehlaaGA
namespace Go.Proofs.Ytajbngkcgbehlaa
open Go.SX
theorem ti (t : Nat) {i : TI} (h : tab.find? (fun p => Nat.beq p.1 t) = some (t, i)) : mkTI Try.prog t = some i := tabOk (t, i) (List.mem_of_find?_eq_some h)
theorem mixed : Try.prog.follows .mixedOrders = true := by kernel_rfl
theorem ends_of {B : Base} {v : SV} {H : Heap} {S : Asn} {nx : Nat} {w : World} {val : Value} (hb : ∀ R w', S.holds R w' → (baseA B.w0).holds R w') (hv : ∀ ρ, v.rf ρ = val) (hw0 : B.w0 = w) : finK B v H S nx (fun e w' => e = .returned val ∧ Ext w w') := by
  subst hw0
  exact fin_of fun ρ w' hw => ⟨by rw [hv], ext_of_abs hw hb⟩
theorem roRows_in {a : Addr} {k m : Nat} {S : Asn} {xs : List (List Value)} {K : List (List Value) → Prop} (hm : xs.length = m) (hS : ∀ R w, S.holds R w → RowsI w (some a) k xs) (hx : ∀ r ∈ xs, r.length = k ∧ ∀ v ∈ r, v.oneCell' = true) (h : K xs) : roRowsK a m k S K := by
  rw [roRowsK_def]
  refine ⟨xs, hm, hx, fun R w hw i r hi j v hj => ?_, h⟩
  rcases hS R w hw with h0 | ⟨a', ha, h1⟩
  · subst h0; simp at hi
  · obtain rfl : a = a' := by simpa using ha
    exact h1 i r hi j v hj
theorem ends_rows {B : Base} {H : Heap} {S : Asn} {nx i n k : Nat} {T : TypeId} {xs : List (List Value)} {w : World} (hb : ∀ R w', S.holds R w' → (baseA B.w0).holds R w') (hw0 : B.w0 = w) (he : (i, Ent.rows xs k T) ∈ H) (hn : n = xs.length) :
    finK B (.os i n) H S nx (fun e w' => ∃ v, e = .returned v ∧ Ext w w' ∧ NewRows w w' v k T xs) := by
  subst hw0 hn
  exact fin_of fun ρ w' hw => ⟨_, rfl, ext_of_abs hw hb, new_of_abs hw hb he⟩
theorem ends_bool {B : Base} {b : Bool} {c : Bool} {H : Heap} {S : Asn} {nx : Nat} {w : World} (hb : ∀ R w', S.holds R w' → (baseA B.w0).holds R w') (hw0 : B.w0 = w) (h : c = b) : finK B (.c (.bool b)) H S nx (fun e w' => e = .returned (.bool c) ∧ Ext w w') :=
  ends_of hb (fun _ => by rw [h]; rfl) hw0

/-- a slice of numbers: where it stands and what it holds -/
structure IntsV where
  base : Option Addr
  cap : Nat
  xs : List Int
def IntsV.val (v : IntsV) : Value := .slice v.base v.xs.length v.cap
structure IntsV.ok (w : World) (v : IntsV) : Prop where
  rows : RowsI w v.base 1 (ints v.xs)
  fits : ∀ x ∈ v.xs, -9223372036854775808 ≤ x ∧ x ≤ 9223372036854775807
  room : v.xs.length ≤ v.cap
  few : v.xs.length ≤ 1000000
theorem IntsV.ok.base {w : World} {v : IntsV} (h : v.ok w) (hl : 0 < v.xs.length) : ∃ a, v.base = some a := base_some (j := 0) h.rows (by rw [ints_length]; exact hl)

theorem take_step {xs ys : List Int} {k : Nat} (hx : k < xs.length) (hy : k < ys.length) (h : xs.take k = ys.take k) (he : xs[k] = ys[k]) : xs.take (k + 1) = ys.take (k + 1) := by
  rw [List.take_succ_eq_append_getElem hx, List.take_succ_eq_append_getElem hy, h, he]


set_option maxHeartbeats 1000000 in
theorem same_any (w : World) (x y : IntsV) (hx : x.ok w) (hy : y.ok w) :
    Calls Try.prog 39 #[x.val, y.val] w fun e w' => e = .returned (.bool (decide (x.xs = y.xs))) ∧ Ext w w' := by
  obtain ⟨ab, ac, xs⟩ := x
  obtain ⟨bb, bc, ys⟩ := y
  obtain ⟨hx, _, _, hfew⟩ := hx
  obtain ⟨hy, _, _, _⟩ := hy
  simp only [IntsV.val] at *
  refine calls_of tab tabOk Try.func39 rfl rfl rfl [] (fun _ => ⟨none, 0⟩) [.c (.slice ab xs.length ac), .c (.slice bb ys.length bc)] [] (baseA w) 0 rfl rfl (by show 2 ≤ _; decide) (abs_base w) ?_
  (repeat' ((conv => whnf) <;> first | (show drawK _ 6 _ _ _ _ _ _; (refine draw_quiet tabOk mixed (by kernel_rfl) ?_)) | (show Wp _ _ _ _ _ _ _; (refine Wp.go tabOk rfl ?_)) | (show @cmpK _ _ _; (first | refine cmp_yes (by omega) ?_ | refine cmp_no (by omega) ?_ | (refine cmp_both ?_ ?_ <;> intro _))) | (show wrapK _ _ _; (refine wrap_i64 (by omega) (by omega) ?_)) | (show leK _ _ _; (refine le_of (by first | exact Nat.le_refl _ | omega) ?_)) | (show roomK _ _ _; (refine room_of (by first | omega | (dsimp only; omega)) ?_)) | (show ltK _ _ _; (refine lt_of (by omega) ?_)) | (show _ ∧ _; (refine ⟨?_, ?_⟩)) | (show keepK _ _ _ _ _; (refine keep_of (by first | exact List.Sublist.refl _ | exact List.Sublist.cons _ (List.Sublist.refl _) | exact List.Sublist.cons _ (List.Sublist.cons _ (List.Sublist.refl _)) | exact List.Sublist.cons _ (List.Sublist.cons _ (List.Sublist.cons _ (List.Sublist.refl _)))) (by first | exact (fun _ _ h => h) | exact (fun _ _ h => h.1) | exact (fun _ _ h => h.1.1)) ?_)) | (show ownK _ _ _ _ _; (refine own_keep ?_))))
  · exact ends_bool (fun _ _ h => h) rfl (decide_eq_false (fun h => by subst h; omega))
  rename_i hne
  refine Wp.loop (σ := Nat) 0 (fun k => [(0, .c (.slice ab xs.length ac)), (1, .c (.slice bb ys.length bc)), (12, .c (.int .i64 xs.length)), (13, .c (.int .i64 k))]) (fun _ => []) (fun _ => baseA w)
      (fun k => k ≤ xs.length ∧ xs.take k = ys.take k) (fun k => xs.length - k) 0 [] (Nat.le_refl _) (fun s => ⟨rfl, rfl⟩) ⟨by simp, by simp⟩ ⟨rfl, ⟨rfl, rfl, rfl, rfl, trivial⟩, trivial, fun _ _ h => h⟩ ?_
  rintro k ⟨hk, he⟩
  by_cases hlt : k < xs.length
  · have hlt2 : k < ys.length := by omega
    obtain ⟨a, rfl⟩ : ∃ a, ab = some a := base_some (j := k) hx (by rw [ints_length]; omega)
    obtain ⟨b, rfl⟩ : ∃ a, bb = some a := base_some (j := k) hy (by rw [ints_length]; omega)
    (repeat' ((conv => whnf) <;> first | refine draw_quiet tabOk mixed (by kernel_rfl) ?_ | refine idx_of a k rfl rfl hlt ?_ | refine idx_of b k rfl rfl hlt2 ?_ | refine ro_row0 (fun R w' h => rows_base h hx) _ _ (ints_get hlt) rfl ?_ | refine ro_row0 (fun R w' h => rows_base h hy) _ _ (ints_get hlt2) rfl ?_ | (show drawK _ 6 _ _ _ _ _ _; (refine draw_quiet tabOk mixed (by kernel_rfl) ?_)) | (show Wp _ _ _ _ _ _ _; (refine Wp.go tabOk rfl ?_)) | (show @cmpK _ _ _; (first | refine cmp_yes (by omega) ?_ | refine cmp_no (by omega) ?_ | (refine cmp_both ?_ ?_ <;> intro _))) | (show wrapK _ _ _; (refine wrap_i64 (by omega) (by omega) ?_)) | (show leK _ _ _; (refine le_of (by first | exact Nat.le_refl _ | omega) ?_)) | (show roomK _ _ _; (refine room_of (by first | omega | (dsimp only; omega)) ?_)) | (show ltK _ _ _; (refine lt_of (by omega) ?_)) | (show _ ∧ _; (refine ⟨?_, ?_⟩)) | (show keepK _ _ _ _ _; (refine keep_of (by first | exact List.Sublist.refl _ | exact List.Sublist.cons _ (List.Sublist.refl _) | exact List.Sublist.cons _ (List.Sublist.cons _ (List.Sublist.refl _)) | exact List.Sublist.cons _ (List.Sublist.cons _ (List.Sublist.cons _ (List.Sublist.refl _)))) (by first | exact (fun _ _ h => h) | exact (fun _ _ h => h.1) | exact (fun _ _ h => h.1.1)) ?_)) | (show ownK _ _ _ _ _; (refine own_keep ?_))))
    · exact ends_bool (fun _ _ h => h) rfl (decide_eq_false (fun h => by subst h; omega))
    · rename_i h5
      exact ⟨k + 1, [], ⟨hlt, take_step hlt hlt2 he (by omega)⟩, by omega, rfl, ⟨rfl, rfl, rfl, rfl, trivial⟩, trivial, fun _ _ h => h⟩
  · have hxy : xs = ys := by rw [List.take_of_length_le (by omega), List.take_of_length_le (by omega)] at he; exact he
    (repeat' ((conv => whnf) <;> first | (show drawK _ 6 _ _ _ _ _ _; (refine draw_quiet tabOk mixed (by kernel_rfl) ?_)) | (show Wp _ _ _ _ _ _ _; (refine Wp.go tabOk rfl ?_)) | (show @cmpK _ _ _; (first | refine cmp_yes (by omega) ?_ | refine cmp_no (by omega) ?_ | (refine cmp_both ?_ ?_ <;> intro _))) | (show wrapK _ _ _; (refine wrap_i64 (by omega) (by omega) ?_)) | (show leK _ _ _; (refine le_of (by first | exact Nat.le_refl _ | omega) ?_)) | (show roomK _ _ _; (refine room_of (by first | omega | (dsimp only; omega)) ?_)) | (show ltK _ _ _; (refine lt_of (by omega) ?_)) | (show _ ∧ _; (refine ⟨?_, ?_⟩)) | (show keepK _ _ _ _ _; (refine keep_of (by first | exact List.Sublist.refl _ | exact List.Sublist.cons _ (List.Sublist.refl _) | exact List.Sublist.cons _ (List.Sublist.cons _ (List.Sublist.refl _)) | exact List.Sublist.cons _ (List.Sublist.cons _ (List.Sublist.cons _ (List.Sublist.refl _)))) (by first | exact (fun _ _ h => h) | exact (fun _ _ h => h.1) | exact (fun _ _ h => h.1.1)) ?_)) | (show ownK _ _ _ _ _; (refine own_keep ?_))))
    exact ends_bool (fun _ _ h => h) rfl (decide_eq_true hxy)

set_option maxHeartbeats 1000000 in
theorem equal_any (w : World) (x y : IntsV) (hx : x.ok w) (hy : y.ok w) :
    Calls Try.prog 116 #[x.val, y.val] w fun e w' => e = .returned (.bool (decide (x.xs = y.xs))) ∧ Ext w w' := by
  obtain ⟨ab, ac, xs⟩ := x
  obtain ⟨bb, bc, ys⟩ := y
  obtain ⟨hx, _, _, hfew⟩ := hx
  obtain ⟨hy, _, _, _⟩ := hy
  simp only [IntsV.val] at *
  refine calls_of tab tabOk Try.func116 rfl rfl rfl [] (fun _ => ⟨none, 0⟩) [.c (.slice ab xs.length ac), .c (.slice bb ys.length bc)] [] (baseA w) 0 rfl rfl (by show 2 ≤ _; decide) (abs_base w) ?_
  (repeat' ((conv => whnf) <;> first | (show drawK _ 6 _ _ _ _ _ _; (refine draw_quiet tabOk mixed (by kernel_rfl) ?_)) | (show Wp _ _ _ _ _ _ _; (refine Wp.go tabOk rfl ?_)) | (show @cmpK _ _ _; (first | refine cmp_yes (by omega) ?_ | refine cmp_no (by omega) ?_ | (refine cmp_both ?_ ?_ <;> intro _))) | (show wrapK _ _ _; (refine wrap_i64 (by omega) (by omega) ?_)) | (show leK _ _ _; (refine le_of (by first | exact Nat.le_refl _ | omega) ?_)) | (show roomK _ _ _; (refine room_of (by first | omega | (dsimp only; omega)) ?_)) | (show ltK _ _ _; (refine lt_of (by omega) ?_)) | (show _ ∧ _; (refine ⟨?_, ?_⟩)) | (show keepK _ _ _ _ _; (refine keep_of (by first | exact List.Sublist.refl _ | exact List.Sublist.cons _ (List.Sublist.refl _) | exact List.Sublist.cons _ (List.Sublist.cons _ (List.Sublist.refl _)) | exact List.Sublist.cons _ (List.Sublist.cons _ (List.Sublist.cons _ (List.Sublist.refl _)))) (by first | exact (fun _ _ h => h) | exact (fun _ _ h => h.1) | exact (fun _ _ h => h.1.1)) ?_)) | (show ownK _ _ _ _ _; (refine own_keep ?_))))
  · exact ends_bool (fun _ _ h => h) rfl (decide_eq_false (fun h => by subst h; omega))
  rename_i hne
  refine Wp.loop (σ := Nat) 0 (fun k => [(0, .c (.slice ab xs.length ac)), (1, .c (.slice bb ys.length bc)), (12, .c (.int .i64 xs.length)), (13, .c (.int .i64 k))]) (fun _ => []) (fun _ => baseA w)
      (fun k => k ≤ xs.length ∧ xs.take k = ys.take k) (fun k => xs.length - k) 0 [] (Nat.le_refl _) (fun s => ⟨rfl, rfl⟩) ⟨by simp, by simp⟩ ⟨rfl, ⟨rfl, rfl, rfl, rfl, trivial⟩, trivial, fun _ _ h => h⟩ ?_
  rintro k ⟨hk, he⟩
  by_cases hlt : k < xs.length
  · have hlt2 : k < ys.length := by omega
    obtain ⟨a, rfl⟩ : ∃ a, ab = some a := base_some (j := k) hx (by rw [ints_length]; omega)
    obtain ⟨b, rfl⟩ : ∃ a, bb = some a := base_some (j := k) hy (by rw [ints_length]; omega)
    (repeat' ((conv => whnf) <;> first | refine draw_quiet tabOk mixed (by kernel_rfl) ?_ | refine idx_of a k rfl rfl hlt ?_ | refine idx_of b k rfl rfl hlt2 ?_ | refine ro_row0 (fun R w' h => rows_base h hx) _ _ (ints_get hlt) rfl ?_ | refine ro_row0 (fun R w' h => rows_base h hy) _ _ (ints_get hlt2) rfl ?_ | (show drawK _ 6 _ _ _ _ _ _; (refine draw_quiet tabOk mixed (by kernel_rfl) ?_)) | (show Wp _ _ _ _ _ _ _; (refine Wp.go tabOk rfl ?_)) | (show @cmpK _ _ _; (first | refine cmp_yes (by omega) ?_ | refine cmp_no (by omega) ?_ | (refine cmp_both ?_ ?_ <;> intro _))) | (show wrapK _ _ _; (refine wrap_i64 (by omega) (by omega) ?_)) | (show leK _ _ _; (refine le_of (by first | exact Nat.le_refl _ | omega) ?_)) | (show roomK _ _ _; (refine room_of (by first | omega | (dsimp only; omega)) ?_)) | (show ltK _ _ _; (refine lt_of (by omega) ?_)) | (show _ ∧ _; (refine ⟨?_, ?_⟩)) | (show keepK _ _ _ _ _; (refine keep_of (by first | exact List.Sublist.refl _ | exact List.Sublist.cons _ (List.Sublist.refl _) | exact List.Sublist.cons _ (List.Sublist.cons _ (List.Sublist.refl _)) | exact List.Sublist.cons _ (List.Sublist.cons _ (List.Sublist.cons _ (List.Sublist.refl _)))) (by first | exact (fun _ _ h => h) | exact (fun _ _ h => h.1) | exact (fun _ _ h => h.1.1)) ?_)) | (show ownK _ _ _ _ _; (refine own_keep ?_))))
    · exact ends_bool (fun _ _ h => h) rfl (decide_eq_false (fun h => by subst h; omega))
    · rename_i h5
      exact ⟨k + 1, [], ⟨hlt, take_step hlt hlt2 he (by omega)⟩, by omega, rfl, ⟨rfl, rfl, rfl, rfl, trivial⟩, trivial, fun _ _ h => h⟩
  · have hxy : xs = ys := by rw [List.take_of_length_le (by omega), List.take_of_length_le (by omega)] at he; exact he
    (repeat' ((conv => whnf) <;> first | (show drawK _ 6 _ _ _ _ _ _; (refine draw_quiet tabOk mixed (by kernel_rfl) ?_)) | (show Wp _ _ _ _ _ _ _; (refine Wp.go tabOk rfl ?_)) | (show @cmpK _ _ _; (first | refine cmp_yes (by omega) ?_ | refine cmp_no (by omega) ?_ | (refine cmp_both ?_ ?_ <;> intro _))) | (show wrapK _ _ _; (refine wrap_i64 (by omega) (by omega) ?_)) | (show leK _ _ _; (refine le_of (by first | exact Nat.le_refl _ | omega) ?_)) | (show roomK _ _ _; (refine room_of (by first | omega | (dsimp only; omega)) ?_)) | (show ltK _ _ _; (refine lt_of (by omega) ?_)) | (show _ ∧ _; (refine ⟨?_, ?_⟩)) | (show keepK _ _ _ _ _; (refine keep_of (by first | exact List.Sublist.refl _ | exact List.Sublist.cons _ (List.Sublist.refl _) | exact List.Sublist.cons _ (List.Sublist.cons _ (List.Sublist.refl _)) | exact List.Sublist.cons _ (List.Sublist.cons _ (List.Sublist.cons _ (List.Sublist.refl _)))) (by first | exact (fun _ _ h => h) | exact (fun _ _ h => h.1) | exact (fun _ _ h => h.1.1)) ?_)) | (show ownK _ _ _ _ _; (refine own_keep ?_))))
    exact ends_bool (fun _ _ h => h) rfl (decide_eq_true hxy)
end Go.Proofs.Ytajbngkcgbehlaa
