import Derived.Test.YtajbngkcgbehlaaGF
namespace Go.Proofs.Ytajbngkcgbehlaa
open Go.SX Go.RowKit
structure IntsV.sane (v : IntsV) : Prop where
  fits : ∀ x ∈ v.xs, -9223372036854775808 ≤ x ∧ x ≤ 9223372036854775807
  room : v.xs.length ≤ v.cap
  few : v.xs.length ≤ 1000000
theorem IntsV.ok.sane {w : World} {v : IntsV} (h : v.ok w) : v.sane := ⟨h.fits, h.room, h.few⟩
def intsA (v : IntsV) : Asn := rowsA v.base 1 (ints v.xs)
theorem intsA_ok {v : IntsV} {R : Nat → Prop} {w : World} (hs : v.sane) (h : (intsA v).holds R w) : v.ok w := ⟨rowsA_in h, hs.fits, hs.room, hs.few⟩
/-- numbers in blocks from N on -/
abbrev newA (N : Nat) (v : IntsV) : Asn := (intsA v).past N

theorem newInts {w w' : World} {v : Value} {xs : List Int} (h : NewRows w w' v 1 3 (ints xs)) (hf : ∀ x ∈ xs, -9223372036854775808 ≤ x ∧ x ≤ 9223372036854775807) (hl : xs.length ≤ 1000000) :
    ∃ u : IntsV, v = u.val ∧ u.xs = xs ∧ u.sane ∧ (intsA u).holds (fun b => w.heap.size ≤ b ∧ b < w'.heap.size) w' := by
  obtain ⟨base, cap, e, h1⟩ := newRows_data h
  obtain ⟨l, e2, F, hF, hr, hcap, _⟩ := h
  rw [e2] at e
  simp only [Value.slice.injEq] at e
  obtain ⟨e3, _, e4⟩ := e
  refine ⟨⟨base, cap, xs⟩, ?_, rfl, ⟨hf, ?_, hl⟩, h1⟩
  · rw [e2, e3, e4]; simp [IntsV.val, ints_length]
  · rw [← e4]; simpa [ints_length] using hcap

def ShapePost (w : World) (n : NodeV) (l : List IntsV) (r : Option (List Int)) (e : Ending) (w' : World) : Prop :=
  ∃ (v : Value) (ok : Bool), e = .returned (.tuple #[v, .bool ok]) ∧ Ext w w' ∧ ok = r.isSome ∧
    ∀ xs, r = some xs → ∃ u : IntsV, v = u.val ∧ u.xs = xs ∧ (u = n.shape ∨ u ∈ l ∨ (u.sane ∧ (intsA u).holds (fun b => w.heap.size ≤ b ∧ b < w'.heap.size) w'))

section
variable {B : Base} {H : Heap} {S : Asn} {nx : Nat} {w : World} {n : NodeV} {l : List IntsV} {r : Option (List Int)}
theorem ends_old (u : IntsV) (hb : ∀ R w', S.holds R w' → (baseA B.w0).holds R w') (hw0 : B.w0 = w) (hu : u = n.shape ∨ u ∈ l) (hr : r = some u.xs) : finK B (.tup [.c u.val, .c (.bool true)]) H S nx (ShapePost w n l r) := by
  subst hw0 hr
  exact fin_of fun ρ w' hw => ⟨_, true, rfl, ext_of_abs hw hb, rfl, fun xs h => ⟨u, rfl, by simpa using h, hu.elim .inl fun h => .inr (.inl h)⟩⟩
theorem ends_no {v : SV} (hb : ∀ R w', S.holds R w' → (baseA B.w0).holds R w') (hw0 : B.w0 = w) (hr : r = none) : finK B (.tup [v, .c (.bool false)]) H S nx (ShapePost w n l r) := by
  subst hw0 hr
  exact fin_of fun ρ w' hw => ⟨_, false, rfl, ext_of_abs hw hb, rfl, fun xs h => by cases h⟩
theorem ends_new {i m : Nat} {xs : List Int} (hb : ∀ R w', S.holds R w' → (baseA B.w0).holds R w') (hw0 : B.w0 = w) (he : (i, Ent.rows (ints xs) 1 3) ∈ H) (hm : m = xs.length) (hf : ∀ x ∈ xs, -9223372036854775808 ≤ x ∧ x ≤ 9223372036854775807) (hl : xs.length ≤ 1000000) (hr : r = some xs) :
    finK B (.tup [.os i m, .c (.bool true)]) H S nx (ShapePost w n l r) := by
  subst hw0 hr hm
  refine fin_of fun ρ w' hw => ?_
  have hn := new_of_abs hw hb he
  rw [ints_length] at hn
  obtain ⟨u, h1, h2, h3, h4⟩ := newInts hn hf hl
  exact ⟨_, true, rfl, ext_of_abs hw hb, rfl, fun ys h => ⟨u, h1, by rw [h2]; simpa using h, .inr (.inr ⟨h3, h4⟩)⟩⟩
end

theorem entries_ints (w : World) (s : IntsV) (h : s.ok w) : Calls Try.prog 20 #[s.val] w fun e w' => e = .returned (.int .i64 (entries s.xs)) ∧ Ext w w' := entries_any w s.base s.cap s.xs h.rows
theorem same_m (w : World) (n : NodeV) (at_ : Int) (sv : ShapesV) (hs : sv.ok w) (i : Nat) (s : IntsV) (hi : sv.l[i]? = some s) (ha : n.a = i) :
    Calls Try.prog 85 #[nodeVal n at_ sv.val] w (ShapePost w n sv.l (some s.xs)) := by
  refine calls_of tab tabOk Try.func85 rfl rfl rfl [] (fun _ => ⟨none, 0⟩) [.agg [.c (.int .i64 n.kind), .c (.int .i64 n.a), .c (.int .i64 n.b), .c n.shape.val, .c (.int .i64 n.lo), .c (.int .i64 n.hi), .c (.int .i64 n.size), .c n.data.val, .c n.bias.val, .c (.int .i64 at_), .c sv.val]] [] (baseA w) 0 rfl rfl (by show 1 ≤ _; decide) (abs_base w) ?_
  (repeat' ((conv => whnf) <;> first | (show callK _ 115 _ _ _ _ _; (refine call_pure (f := 115) Try.call115 _ (fun ρ w' hw => first_any w' n at_ sv (holds_of_abs hw fun R h => hs.later h) i s hi ha) ?_)) | (show Wp _ _ _ _ _ _ _; (refine Wp.go tabOk rfl ?_)) | (show @cmpK _ _ _; (first | refine cmp_yes (by omega) ?_ | refine cmp_no (by omega) ?_ | (refine cmp_both ?_ ?_ <;> intro _))) | (show wrapK _ _ _; (refine wrap_i64 (by omega) (by omega) ?_)) | (show leK _ _ _; (refine le_of (by first | exact Nat.le_refl _ | omega) ?_)) | (show roomK _ _ _; (refine room_of (by first | omega | (dsimp only; omega)) ?_)) | (show ltK _ _ _; (refine lt_of (by omega) ?_)) | (show _ ∧ _; (refine ⟨?_, ?_⟩)) | (show keepK _ _ _ _ _; (refine keep_of (by first | exact List.Sublist.refl _ | exact List.Sublist.cons _ (List.Sublist.refl _) | exact List.Sublist.cons _ (List.Sublist.cons _ (List.Sublist.refl _)) | exact List.Sublist.cons _ (List.Sublist.cons _ (List.Sublist.cons _ (List.Sublist.refl _)))) (by first | exact (fun _ _ h => h) | exact (fun _ _ h => h.1) | exact (fun _ _ h => h.1.1)) ?_)) | (show ownK _ _ _ _ _; (refine own_keep ?_))))
  exact ends_old s (fun _ _ h => h) rfl (.inr (List.mem_of_getElem? hi)) rfl
theorem own_m (w : World) (n : NodeV) (at_ : Int) (sv : ShapesV) :
    Calls Try.prog 86 #[nodeVal n at_ sv.val] w (ShapePost w n sv.l (some n.shape.xs)) := by
  refine calls_of tab tabOk Try.func86 rfl rfl rfl [] (fun _ => ⟨none, 0⟩) [.agg [.c (.int .i64 n.kind), .c (.int .i64 n.a), .c (.int .i64 n.b), .c n.shape.val, .c (.int .i64 n.lo), .c (.int .i64 n.hi), .c (.int .i64 n.size), .c n.data.val, .c n.bias.val, .c (.int .i64 at_), .c sv.val]] [] (baseA w) 0 rfl rfl (by show 1 ≤ _; decide) (abs_base w) ?_
  (repeat' ((conv => whnf) <;> first | (show Wp _ _ _ _ _ _ _; (refine Wp.go tabOk rfl ?_)) | (show @cmpK _ _ _; (first | refine cmp_yes (by omega) ?_ | refine cmp_no (by omega) ?_ | (refine cmp_both ?_ ?_ <;> intro _))) | (show wrapK _ _ _; (refine wrap_i64 (by omega) (by omega) ?_)) | (show leK _ _ _; (refine le_of (by first | exact Nat.le_refl _ | omega) ?_)) | (show roomK _ _ _; (refine room_of (by first | omega | (dsimp only; omega)) ?_)) | (show ltK _ _ _; (refine lt_of (by omega) ?_)) | (show _ ∧ _; (refine ⟨?_, ?_⟩)) | (show keepK _ _ _ _ _; (refine keep_of (by first | exact List.Sublist.refl _ | exact List.Sublist.cons _ (List.Sublist.refl _) | exact List.Sublist.cons _ (List.Sublist.cons _ (List.Sublist.refl _)) | exact List.Sublist.cons _ (List.Sublist.cons _ (List.Sublist.cons _ (List.Sublist.refl _)))) (by first | exact (fun _ _ h => h) | exact (fun _ _ h => h.1) | exact (fun _ _ h => h.1.1)) ?_)) | (show ownK _ _ _ _ _; (refine own_keep ?_))))
  exact ends_old n.shape (fun _ _ h => h) rfl (.inl rfl) rfl
set_option maxRecDepth 20000 in
theorem flat_m (w : World) (n : NodeV) (hn : n.ok w) (at_ : Int) (sv : ShapesV) (hs : sv.ok w) (i : Nat) (s : IntsV) (hi : sv.l[i]? = some s) (ha : n.a = i) :
    Calls Try.prog 91 #[nodeVal n at_ sv.val] w (ShapePost w n sv.l (if entries n.shape.xs = entries s.xs then some n.shape.xs else none)) := by
  have hso := hs.each s (List.mem_of_getElem? hi)
  refine calls_of tab tabOk Try.func91 rfl rfl rfl [] (fun _ => ⟨none, 0⟩) [.agg [.c (.int .i64 n.kind), .c (.int .i64 n.a), .c (.int .i64 n.b), .c n.shape.val, .c (.int .i64 n.lo), .c (.int .i64 n.hi), .c (.int .i64 n.size), .c n.data.val, .c n.bias.val, .c (.int .i64 at_), .c sv.val]] [] (baseA w) 0 rfl rfl (by show 1 ≤ _; decide) (abs_base w) ?_
  (repeat' ((conv => whnf) <;> first | (show callQ _ 115 _ _ _ _ _; (refine callQ_of (f := 115) Try.call115 _ (fun ρ w' hw => first_any w' n at_ sv (holds_of_abs hw fun R h => hs.later h) i s hi ha) ?_)) | (show callQ _ 20 [.c n.shape.val] _ _ _ _; (refine callQ_of (f := 20) Try.call20 _ (fun ρ w' hw => entries_ints w' n.shape (holds_of_abs hw fun R h => hn.shape.later h)) ?_)) | (show callQ _ 20 [.c s.val] _ _ _ _; (refine callQ_of (f := 20) Try.call20 _ (fun ρ w' hw => entries_ints w' s (holds_of_abs hw fun R h => hso.later h)) ?_)) | (show drawK _ 1 _ _ _ _ _ _; (refine draw_quiet tabOk mixed (by kernel_rfl) ?_)) | (show Wp _ _ _ _ _ _ _; (refine Wp.go tabOk rfl ?_)) | (show @cmpK _ _ _; (first | refine cmp_yes (by omega) ?_ | refine cmp_no (by omega) ?_ | (refine cmp_both ?_ ?_ <;> intro _))) | (show wrapK _ _ _; (refine wrap_i64 (by omega) (by omega) ?_)) | (show leK _ _ _; (refine le_of (by first | exact Nat.le_refl _ | omega) ?_)) | (show roomK _ _ _; (refine room_of (by first | omega | (dsimp only; omega)) ?_)) | (show ltK _ _ _; (refine lt_of (by omega) ?_)) | (show _ ∧ _; (refine ⟨?_, ?_⟩)) | (show keepK _ _ _ _ _; (refine keep_of (by first | exact List.Sublist.refl _ | exact List.Sublist.cons _ (List.Sublist.refl _) | exact List.Sublist.cons _ (List.Sublist.cons _ (List.Sublist.refl _)) | exact List.Sublist.cons _ (List.Sublist.cons _ (List.Sublist.cons _ (List.Sublist.refl _)))) (by first | exact (fun _ _ h => h) | exact (fun _ _ h => h.1) | exact (fun _ _ h => h.1.1)) ?_)) | (show ownK _ _ _ _ _; (refine own_keep ?_))))
  · rename_i h
    rw [if_pos h]
    exact ends_old n.shape (fun _ _ h => h) rfl (.inl rfl) rfl
  · rename_i h
    rw [if_neg h]
    exact ends_no (fun _ _ h => h) rfl rfl
set_option maxRecDepth 20000 in
theorem sum_m (w : World) (n : NodeV) (at_ : Int) (sv : ShapesV) (hs : sv.ok w) (i j : Nat) (s t : IntsV) (hi : sv.l[i]? = some s) (ha : n.a = i) (hj : sv.l[j]? = some t) (hb : n.b = j) :
    Calls Try.prog 90 #[nodeVal n at_ sv.val] w (ShapePost w n sv.l (if s.xs = t.xs then some s.xs else none)) := by
  have hso := hs.each s (List.mem_of_getElem? hi)
  have hto := hs.each t (List.mem_of_getElem? hj)
  obtain ⟨hjl, hjt⟩ := List.getElem?_eq_some_iff.1 hj
  have hr : (shRows sv.l)[j]? = some [t.val] := by rw [shRows_get hjl, hjt]
  obtain ⟨a, hb'⟩ : ∃ a, sv.base = some a := base_some (j := j) hs.rows (by rw [shRows_length]; exact hjl)
  refine calls_of tab tabOk Try.func90 rfl rfl rfl [] (fun _ => ⟨none, 0⟩) [.agg [.c (.int .i64 n.kind), .c (.int .i64 n.a), .c (.int .i64 n.b), .c n.shape.val, .c (.int .i64 n.lo), .c (.int .i64 n.hi), .c (.int .i64 n.size), .c n.data.val, .c n.bias.val, .c (.int .i64 at_), .c sv.val]] [] (baseA w) 0 rfl rfl (by show 1 ≤ _; decide) (abs_base w) ?_
  (repeat' ((conv => whnf) <;> first | (show callQ _ 115 _ _ _ _ _; (refine callQ_of (f := 115) Try.call115 _ (fun ρ w' hw => first_any w' n at_ sv (holds_of_abs hw fun R h => hs.later h) i s hi ha) ?_)) | (show idxK _ _ _ _ _; (refine idx_of a j hb' hb hjl ?_)) | (show roK _ _ _; (refine ro_row0 (fun R w' h => by rw [← hb']; exact rows_base h hs.rows) _ _ hr rfl ?_)) | (show callQ _ 116 _ _ _ _ _; ((refine callQ_bool (f := 116) Try.call116 _ (fun ρ w' hw => equal_any w' s t (holds_of_abs hw fun R h => hso.later h) (holds_of_abs hw fun R h => hto.later h)) ?_ ?_ <;> intro he))) | (show drawK _ 1 _ _ _ _ _ _; (refine draw_quiet tabOk mixed (by kernel_rfl) ?_)) | (show Wp _ _ _ _ _ _ _; (refine Wp.go tabOk rfl ?_)) | (show @cmpK _ _ _; (first | refine cmp_yes (by omega) ?_ | refine cmp_no (by omega) ?_ | (refine cmp_both ?_ ?_ <;> intro _))) | (show wrapK _ _ _; (refine wrap_i64 (by omega) (by omega) ?_)) | (show leK _ _ _; (refine le_of (by first | exact Nat.le_refl _ | omega) ?_)) | (show roomK _ _ _; (refine room_of (by first | omega | (dsimp only; omega)) ?_)) | (show ltK _ _ _; (refine lt_of (by omega) ?_)) | (show _ ∧ _; (refine ⟨?_, ?_⟩)) | (show keepK _ _ _ _ _; (refine keep_of (by first | exact List.Sublist.refl _ | exact List.Sublist.cons _ (List.Sublist.refl _) | exact List.Sublist.cons _ (List.Sublist.cons _ (List.Sublist.refl _)) | exact List.Sublist.cons _ (List.Sublist.cons _ (List.Sublist.cons _ (List.Sublist.refl _)))) (by first | exact (fun _ _ h => h) | exact (fun _ _ h => h.1) | exact (fun _ _ h => h.1.1)) ?_)) | (show ownK _ _ _ _ _; (refine own_keep ?_))))
  · rw [if_pos (of_decide_eq_true he)]
    exact ends_old s (fun _ _ h => h) rfl (.inr (List.mem_of_getElem? hi)) rfl
  · rw [if_neg (of_decide_eq_false he)]
    exact ends_no (fun _ _ h => h) rfl rfl

end Go.Proofs.Ytajbngkcgbehlaa
