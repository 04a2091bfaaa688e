import Derived.Test.YtdmkdogakbipbaaKTidyConstant3
/- GL -/
namespace Go.Proofs.Ytdmkdogakbipbaa
open Go.SX Go.RowKit
def bools (l : List Bool) : List (List Value) := l.map fun b => [.bool b]
theorem bools_length (l : List Bool) : (bools l).length = l.length := by simp [bools]
structure BoolsV where
  base : Option Addr
  cap : Nat
  bs : List Bool
def BoolsV.val (v : BoolsV) : Value := .slice v.base v.bs.length v.cap
def boolsA (v : BoolsV) : Asn := rowsA v.base 1 (bools v.bs)
def BoolsPost (w : World) (l : List Bool) (e : Ending) (w' : World) : Prop :=
  ∃ u : BoolsV, (u.bs = l ∧ ∃ a, u.base = some a) ∧ e = .returned u.val ∧ Ext w w' ∧ (boolsA u).holds (fun b => w.heap.size ≤ b ∧ b < w'.heap.size) w'
theorem ends_bools {B : Base} {H : Heap} {S : Asn} {nx i m : Nat} {T : TypeId} {l : List Bool} {w : World} (hb : ∀ R w', S.holds R w' → (baseA B.w0).holds R w') (hw0 : B.w0 = w) (he : (i, Ent.rows (bools l) 1 T) ∈ H) (hm : m = l.length) (hl : l ≠ []) :
    finK B (.os i m) H S nx (BoolsPost w l) := by
  subst hw0 hm
  refine fin_of fun ρ w' hw => ?_
  have hn := new_of_abs hw hb he
  obtain ⟨base, cap, e1, h1⟩ := newRows_data hn
  rw [bools_length] at e1
  refine ⟨⟨base, cap, l⟩, ⟨rfl, ?_⟩, by rw [e1]; rfl, ext_of_abs hw hb, h1⟩
  rcases h1.2 with h | ⟨b, off, h, _⟩
  · exact absurd (by simpa [bools] using h) hl
  · exact ⟨_, h⟩
theorem ro_bool {a : Addr} {j : Nat} {S : Asn} {l : List Bool} {K : SV → Prop} (hx : ∀ R w, S.holds R w → RowsI w (some a) 1 (bools l)) (hj : j < l.length) (h : K (.c (.bool (l.getD j false)))) : roK (a.add (j * 1)) S K :=
  ro_row0 hx [.bool (l.getD j false)] (.bool (l.getD j false)) (by simp [bools, List.getD, hj]) rfl h
theorem ro_prop {a : Addr} {j : Nat} {S : Asn} {l : List Bool} {K : SV → Prop} (p : Prop) [Decidable p] (hx : ∀ R w, S.holds R w → RowsI w (some a) 1 (bools l)) (hj : j < l.length) (he : l.getD j false = decide p) (h1 : p → K (.c (.bool true))) (h2 : ¬ p → K (.c (.bool false))) : roK (a.add (j * 1)) S K := by
  refine ro_bool hx hj ?_
  rw [he]
  by_cases hp : p
  · rw [decide_eq_true hp]; exact h1 hp
  · rw [decide_eq_false hp]; exact h2 hp

@[irreducible] def mayL (k : Int) : Option (List Bool) :=
  if k = 1 then some [false, false, true, true, false, false, false]
  else if k = 2 then some [false, false, true, false, false, true, false]
  else if k = 3 then some [true, false, false, false, false, true, true]
  else if k = 4 then some [true, false, true, false, false, true, true]
  else if k = 5 then some [true, false, false, false, true, false, false]
  else if k = 6 then some [true, true, false, false, false, false, false]
  else if k = 7 then some [true, false, false, false, false, true, false]
  else if k = 8 then some [true, false, false, false, false, true, false]
  else if k = 9 then some [true, false, true, false, false, false, false]
  else none
theorem may_any (w : World) (k : Int) (l : List Bool) (hm : mayL k = some l) : Calls Try.prog 94 #[.int .i64 k] w (BoolsPost w l) := by
  unfold mayL at hm
  refine calls_of tab tabOk Try.func94 rfl rfl rfl [] (fun _ => ⟨none, 0⟩) [.c (.int .i64 k)] [] (baseA w) 0 rfl rfl (by show 1 ≤ _; decide) (abs_base w) ?_
  (repeat' ((conv => whnf) <;> first | (show Wp _ _ _ _ _ _ _; refine Wp.go tabOk rfl ?_) | (show @cmpK _ _ _; (first | refine cmpY ?_ | refine cmpN ?_ | (refine cmp_both ?_ ?_ <;> intro _))) | (show wrapK _ _ _; refine wrapA ?_) | (show leK _ _ _; refine leA ?_) | (show roomK _ _ _; refine roomA ?_) | (show ltK _ _ _; refine ltA ?_) | (show _ ∧ _; refine ⟨?_, ?_⟩) | (show keepK _ _ _ _ _; refine keepA ?_) | refine own_keep ?_ | refine ap_old ?_))
  all_goals (repeat (first | rw [if_pos (by omega)] at hm | rw [if_neg (by omega)] at hm))
  all_goals first
    | (cases hm; done)
    | (obtain rfl := Option.some.inj hm; exact ends_bools (fun _ _ h => h) rfl List.mem_cons_self rfl (by simp))
theorem may_none (w : World) (k : Int) (hm : mayL k = none) : Calls Try.prog 94 #[.int .i64 k] w fun e w' => e = .returned (.slice none 0 0) ∧ Ext w w' := by
  unfold mayL at hm
  refine calls_of tab tabOk Try.func94 rfl rfl rfl [] (fun _ => ⟨none, 0⟩) [.c (.int .i64 k)] [] (baseA w) 0 rfl rfl (by show 1 ≤ _; decide) (abs_base w) ?_
  (repeat' ((conv => whnf) <;> first | (show Wp _ _ _ _ _ _ _; refine Wp.go tabOk rfl ?_) | (show @cmpK _ _ _; (first | refine cmpY ?_ | refine cmpN ?_ | (refine cmp_both ?_ ?_ <;> intro _))) | (show wrapK _ _ _; refine wrapA ?_) | (show leK _ _ _; refine leA ?_) | (show roomK _ _ _; refine roomA ?_) | (show ltK _ _ _; refine ltA ?_) | (show _ ∧ _; refine ⟨?_, ?_⟩) | (show keepK _ _ _ _ _; refine keepA ?_) | refine own_keep ?_ | refine ap_old ?_))
  all_goals (repeat (first | rw [if_pos (by omega)] at hm | rw [if_neg (by omega)] at hm))
  all_goals first
    | (cases hm; done)
    | exact ends_of (fun _ _ h => h) (fun _ => rfl) rfl
def hasL (n : NodeV) : List Bool := [decide (n.a ≠ 0), decide (n.b ≠ 0), decide ((n.shape.xs.length : Int) > 0), decide (n.lo ≠ 0 ∨ n.hi ≠ 0), decide (n.size ≠ 0), decide ((n.data.xs.length : Int) > 0), decide ((n.bias.xs.length : Int) > 0)]
theorem cmp_keep {p : Prop} [Decidable p] {K : Bool → Prop} (h : K (decide p)) : cmpK p K := by
  rw [cmpK_def]
  exact ⟨fun hp => by rw [decide_eq_true hp] at h; exact h, fun hp => by rw [decide_eq_false hp] at h; exact h⟩
set_option maxRecDepth 20000 in
theorem has_any (w : World) (n : NodeV) : Calls Try.prog 95 #[.agg n.cells.toArray] w (BoolsPost w (hasL n)) := by
  refine calls_of tab tabOk Try.func95 rfl rfl rfl [] (fun _ => ⟨none, 0⟩) [.agg [.c (.int .i64 n.kind), .c (.int .i64 n.a), .c (.int .i64 n.b), .c n.shape.val, .c (.int .i64 n.lo), .c (.int .i64 n.hi), .c (.int .i64 n.size), .c n.data.val, .c n.bias.val]] [] (baseA w) 0 rfl rfl (by show 1 ≤ _; decide) (abs_base w) ?_
  (repeat' ((conv => whnf) <;> first | (show @cmpK _ _ _; (first | refine cmp_keep (p := n.a ≠ 0) ?_ | refine cmp_keep (p := n.b ≠ 0) ?_ | refine cmp_keep (p := (n.shape.xs.length : Int) > 0) ?_ | refine cmp_keep (p := n.size ≠ 0) ?_ | refine cmp_keep (p := (n.data.xs.length : Int) > 0) ?_ | refine cmp_keep (p := (n.bias.xs.length : Int) > 0) ?_ | refine cmp_yes (by omega) ?_ | refine cmp_no (by omega) ?_ | (refine cmp_both ?_ ?_ <;> intro _))) | (show Wp _ _ _ _ _ _ _; refine Wp.go tabOk rfl ?_) | (show @cmpK _ _ _; (first | refine cmpY ?_ | refine cmpN ?_ | (refine cmp_both ?_ ?_ <;> intro _))) | (show wrapK _ _ _; refine wrapA ?_) | (show leK _ _ _; refine leA ?_) | (show roomK _ _ _; refine roomA ?_) | (show ltK _ _ _; refine ltA ?_) | (show _ ∧ _; refine ⟨?_, ?_⟩) | (show keepK _ _ _ _ _; refine keepA ?_) | refine own_keep ?_ | refine ap_old ?_))
  all_goals (conv => whnf)
  all_goals refine ends_bools (B := ⟨w, []⟩) (l := hasL n) (T := 4) (fun _ _ h => h) rfl ?_ rfl (by simp [hasL])
  all_goals (unfold hasL; (first | rw [decide_eq_true (p := n.lo ≠ 0 ∨ n.hi ≠ 0) (by omega)] | rw [decide_eq_false (p := n.lo ≠ 0 ∨ n.hi ≠ 0) (by omega)]); exact List.mem_cons_self)

theorem call_bools {cx : Cx} {f : FuncId} {args : List SV} {H : Heap} {S : Asn} {nx : Nat} {K : SV → Heap → Asn → Nat → Prop} (l : List Bool) (m : Nat) (hm : l.length = m) (hf : ∀ ar w, (callFunc f ar).run cx.P w = .ok (.enter f ar) w)
    (hc : ∀ ρ w', Abs cx.B ρ nx H S w' → Calls cx.P f (SV.rfs ρ args).toArray w' (BoolsPost w' l))
    (h : ∀ (u : BoolsV) (a : Addr), u.bs = l → u.base = some a → u.bs.length = m → K (.c u.val) H (S.and ((boolsA u).past cx.B.w0.heap.size)) nx) : callK cx f args H S nx K :=
  call_past hf BoolsV.val boolsA (fun u => u.bs = l ∧ ∃ a, u.base = some a) (fun ρ w' hw => hc ρ w' hw) (fun u hu => hu.2.elim fun a ha => h u a hu.1 ha (by rw [hu.1, hm]))
theorem boolsA_in {u : BoolsV} {a : Addr} {l : List Bool} {N : Nat} {R : Nat → Prop} {w : World} (hl : u.bs = l) (ha : u.base = some a) (h : ((boolsA u).past N).holds R w) : RowsI w (some a) 1 (bools l) := by
  subst hl
  rw [← ha]; exact rowsA_in h
theorem slice_nil_no {P : Program} {t : TypeId} {ti : TI} (h : mkTI P t = some ti) (hk : ti.kind = 1) {ox oy : Operand} {base : Option Addr} {len cap : Nat} {K : SV → Prop} {a : Addr} (hb : base = some a) (hK : K (.c (.bool false))) :
    pureK P (do eqGuard .eql t ox oy (.slice base len cap) (.slice none 0 0); binOp .eql t (.slice base len cap) (.slice none 0 0)) K := by
  subst hb
  exact slice_nil_eql h hk hK
theorem slice_nil_yes {P : Program} {t : TypeId} {ti : TI} (h : mkTI P t = some ti) (hk : ti.kind = 1) {ox oy : Operand} {K : SV → Prop} (hK : K (.c (.bool true))) :
    pureK P (do eqGuard .eql t ox oy (.slice none 0 0) (.slice none 0 0); binOp .eql t (.slice none 0 0) (.slice none 0 0)) K := slice_nil_eql h hk hK
theorem lacks_eq {n : NodeV} {a b sh sp si da bi : Bool} : lacksB n a b sh sp si da bi = decide (¬ ((n.a ≠ 0 ∧ a = false) ∨ (n.b ≠ 0 ∧ b = false) ∨ ((n.shape.xs.length : Int) > 0 ∧ sh = false) ∨ ((n.lo ≠ 0 ∨ n.hi ≠ 0) ∧ sp = false) ∨ (n.size ≠ 0 ∧ si = false) ∨ ((n.data.xs.length : Int) > 0 ∧ da = false) ∨ ((n.bias.xs.length : Int) > 0 ∧ bi = false))) := by
  unfold lacksB
  rw [Bool.eq_iff_iff]
  simp only [Bool.and_eq_true, Bool.or_eq_true, decide_eq_true_eq]
  cases a <;> cases b <;> cases sh <;> cases sp <;> cases si <;> cases da <;> cases bi <;> simp only [Bool.false_eq_true, Bool.true_eq_false, false_or, true_or, and_false, and_true, or_false, true_and, reduceCtorEq] <;> first | omega | simp
end Go.Proofs.Ytdmkdogakbipbaa

/- GM -/
namespace Go.Proofs.Ytdmkdogakbipbaa
open Go.SX Go.RowKit
set_option maxRecDepth 20000 in
set_option maxHeartbeats 8000000 in
theorem refForm_1 (w : World) (n : NodeV) (hn : n.ok w) (at_ : Int) (hk : n.kind = 1) :
    Calls Try.prog 67 #[.agg n.cells.toArray, .int .i64 at_] w fun e w' => e = .returned (.bool (formB n at_)) ∧ Ext w w' := by
  have hm : mayL n.kind = some [false, false, true, true, false, false, false] := by unfold mayL; rw [hk]; rfl
  obtain ⟨a, hbase⟩ := ints_base hn.shape
  have hfb : formB n at_ = formB n at_ := rfl
  conv at hfb => rhs; unfold formB
  repeat (first | rw [if_pos (by omega)] at hfb | rw [if_neg (by omega)] at hfb)
  rw [lacks_eq] at hfb
  simp only [aheadB] at hfb
  refine calls_of tab tabOk Try.func67 rfl rfl rfl [] (fun _ => ⟨none, 0⟩) [.agg [.c (.int .i64 n.kind), .c (.int .i64 n.a), .c (.int .i64 n.b), .c n.shape.val, .c (.int .i64 n.lo), .c (.int .i64 n.hi), .c (.int .i64 n.size), .c n.data.val, .c n.bias.val], .c (.int .i64 at_)] [] (baseA w) 0 rfl rfl (by show 2 ≤ _; decide) (abs_base w) ?_
  (repeat' ((conv => whnf) <;> first | (show callK _ 94 _ _ _ _ _; refine call_bools (f := 94) [false, false, true, true, false, false, false] 7 rfl Try.call94 (fun ρ w' hw => may_any w' n.kind [false, false, true, true, false, false, false] hm) (fun m am hml ham hmn => ?_)) | (show pureK _ _ _; (first | refine slice_nil_no (ti 116 rfl) rfl ham ?_)) | (show callK _ 95 _ _ _ _ _; refine call_bools (f := 95) (hasL n) 7 rfl Try.call95 (fun ρ w' hw => has_any w' n) (fun h ah hhl hah hhn => ?_)) | (show drawK _ _ _ _ _ _ _ _; refine draw_quiet tabOk mixed (by kernel_rfl) ?_) | (show Wp _ _ _ _ _ _ _; refine Wp.go tabOk rfl ?_) | (show @cmpK _ _ _; (first | refine cmpY ?_ | refine cmpN ?_ | (refine cmp_both ?_ ?_ <;> intro _))) | (show wrapK _ _ _; refine wrapA ?_) | (show leK _ _ _; refine leA ?_) | (show roomK _ _ _; refine roomA ?_) | (show ltK _ _ _; refine ltA ?_) | (show _ ∧ _; refine ⟨?_, ?_⟩) | (show keepK _ _ _ _ _; refine keepA ?_) | refine own_keep ?_ | refine ap_old ?_))
  refine Wp.rounds 8 ?_
  (repeat' ((conv => whnf) <;> first | (show pureK _ _ _; (first | refine slice_nil_no (ti 116 rfl) rfl ham ?_)) | (show callK _ 95 _ _ _ _ _; refine call_bools (f := 95) (hasL n) 7 rfl Try.call95 (fun ρ w' hw => has_any w' n) (fun h ah hhl hah hhn => ?_)) | (show callK _ 34 _ _ _ _ _; refine call_pure (f := 34) Try.call34 _ (fun ρ w' hw => refEntries_any w' n.shape.base n.shape.cap n.shape.xs (holds_of_abs hw fun R h => rows_base h.1.1 hn.shape.rows)) ?_) | (show callQ _ 34 _ _ _ _ _; refine callQ_of (f := 34) Try.call34 _ (fun ρ w' hw => refEntries_any w' n.shape.base n.shape.cap n.shape.xs (holds_of_abs hw fun R h => rows_base h.1.1 hn.shape.rows)) ?_) | (show idxK _ _ _ _ _; (first | refine idx_of ah 0 hah rfl (by omega) ?_ | refine idx_of am 0 ham rfl (by omega) ?_ | refine idx_of ah 1 hah rfl (by omega) ?_ | refine idx_of am 1 ham rfl (by omega) ?_ | refine idx_of ah 2 hah rfl (by omega) ?_ | refine idx_of am 2 ham rfl (by omega) ?_ | refine idx_of ah 3 hah rfl (by omega) ?_ | refine idx_of am 3 ham rfl (by omega) ?_ | refine idx_of ah 4 hah rfl (by omega) ?_ | refine idx_of am 4 ham rfl (by omega) ?_ | refine idx_of ah 5 hah rfl (by omega) ?_ | refine idx_of am 5 ham rfl (by omega) ?_ | refine idx_of ah 6 hah rfl (by omega) ?_ | refine idx_of am 6 ham rfl (by omega) ?_ | refine idx_of _ 0 (hbase (by omega)) rfl (by omega) ?_)) | (show roK _ _ _; (first | (refine ro_prop (j := 0) (n.a ≠ 0) (fun R w' h => boolsA_in hhl hah (by first | exact h.2 | exact h.1.2)) (show 0 < 7 by decide) rfl ?_ ?_ <;> intro _) | refine ro_bool (j := 0) (fun R w' h => boolsA_in hml ham (by first | exact h.1.2 | exact h.2)) (show 0 < 7 by decide) ?_ | (refine ro_prop (j := 1) (n.b ≠ 0) (fun R w' h => boolsA_in hhl hah (by first | exact h.2 | exact h.1.2)) (show 1 < 7 by decide) rfl ?_ ?_ <;> intro _) | refine ro_bool (j := 1) (fun R w' h => boolsA_in hml ham (by first | exact h.1.2 | exact h.2)) (show 1 < 7 by decide) ?_ | (refine ro_prop (j := 2) ((n.shape.xs.length : Int) > 0) (fun R w' h => boolsA_in hhl hah (by first | exact h.2 | exact h.1.2)) (show 2 < 7 by decide) rfl ?_ ?_ <;> intro _) | refine ro_bool (j := 2) (fun R w' h => boolsA_in hml ham (by first | exact h.1.2 | exact h.2)) (show 2 < 7 by decide) ?_ | (refine ro_prop (j := 3) (n.lo ≠ 0 ∨ n.hi ≠ 0) (fun R w' h => boolsA_in hhl hah (by first | exact h.2 | exact h.1.2)) (show 3 < 7 by decide) rfl ?_ ?_ <;> intro _) | refine ro_bool (j := 3) (fun R w' h => boolsA_in hml ham (by first | exact h.1.2 | exact h.2)) (show 3 < 7 by decide) ?_ | (refine ro_prop (j := 4) (n.size ≠ 0) (fun R w' h => boolsA_in hhl hah (by first | exact h.2 | exact h.1.2)) (show 4 < 7 by decide) rfl ?_ ?_ <;> intro _) | refine ro_bool (j := 4) (fun R w' h => boolsA_in hml ham (by first | exact h.1.2 | exact h.2)) (show 4 < 7 by decide) ?_ | (refine ro_prop (j := 5) ((n.data.xs.length : Int) > 0) (fun R w' h => boolsA_in hhl hah (by first | exact h.2 | exact h.1.2)) (show 5 < 7 by decide) rfl ?_ ?_ <;> intro _) | refine ro_bool (j := 5) (fun R w' h => boolsA_in hml ham (by first | exact h.1.2 | exact h.2)) (show 5 < 7 by decide) ?_ | (refine ro_prop (j := 6) ((n.bias.xs.length : Int) > 0) (fun R w' h => boolsA_in hhl hah (by first | exact h.2 | exact h.1.2)) (show 6 < 7 by decide) rfl ?_ ?_ <;> intro _) | refine ro_bool (j := 6) (fun R w' h => boolsA_in hml ham (by first | exact h.1.2 | exact h.2)) (show 6 < 7 by decide) ?_ | refine ro_int (j := 0) (fun R w' h => hn.shape.at_ (hbase (by omega)) R w' (by first | exact h.1.1 | exact h.1)) (by omega) ?_)) | (show drawK _ _ _ _ _ _ _ _; refine draw_quiet tabOk mixed (by kernel_rfl) ?_) | (show Wp _ _ _ _ _ _ _; refine Wp.go tabOk rfl ?_) | (show @cmpK _ _ _; (first | refine cmpY ?_ | refine cmpN ?_ | (refine cmp_both ?_ ?_ <;> intro _))) | (show wrapK _ _ _; refine wrapA ?_) | (show leK _ _ _; refine leA ?_) | (show roomK _ _ _; refine roomA ?_) | (show ltK _ _ _; refine ltA ?_) | (show _ ∧ _; refine ⟨?_, ?_⟩) | (show keepK _ _ _ _ _; refine keepA ?_) | refine own_keep ?_ | refine ap_old ?_))
  all_goals (conv => whnf)
  all_goals refine ends_bool (B := ⟨w, []⟩) (S := ((baseA w).and ((boolsA m).past w.heap.size)).and ((boolsA h).past w.heap.size)) (fun _ _ h => h.1.1) rfl ?_
  all_goals rw [hfb]
  all_goals simp only [Bool.and_eq_true, Bool.and_eq_false_iff, decide_eq_true_eq, decide_eq_false_iff_not, reduceCtorEq, and_false, and_true, or_false, false_or]
  all_goals first | omega | (simp; omega)
set_option maxRecDepth 20000 in
set_option maxHeartbeats 8000000 in
theorem refForm_2 (w : World) (n : NodeV) (hn : n.ok w) (at_ : Int) (hk : n.kind = 2) :
    Calls Try.prog 67 #[.agg n.cells.toArray, .int .i64 at_] w fun e w' => e = .returned (.bool (formB n at_)) ∧ Ext w w' := by
  have hm : mayL n.kind = some [false, false, true, false, false, true, false] := by unfold mayL; rw [hk]; rfl
  obtain ⟨a, hbase⟩ := ints_base hn.shape
  have hfb : formB n at_ = formB n at_ := rfl
  conv at hfb => rhs; unfold formB
  repeat (first | rw [if_pos (by omega)] at hfb | rw [if_neg (by omega)] at hfb)
  rw [lacks_eq] at hfb
  simp only [aheadB] at hfb
  refine calls_of tab tabOk Try.func67 rfl rfl rfl [] (fun _ => ⟨none, 0⟩) [.agg [.c (.int .i64 n.kind), .c (.int .i64 n.a), .c (.int .i64 n.b), .c n.shape.val, .c (.int .i64 n.lo), .c (.int .i64 n.hi), .c (.int .i64 n.size), .c n.data.val, .c n.bias.val], .c (.int .i64 at_)] [] (baseA w) 0 rfl rfl (by show 2 ≤ _; decide) (abs_base w) ?_
  (repeat' ((conv => whnf) <;> first | (show callK _ 94 _ _ _ _ _; refine call_bools (f := 94) [false, false, true, false, false, true, false] 7 rfl Try.call94 (fun ρ w' hw => may_any w' n.kind [false, false, true, false, false, true, false] hm) (fun m am hml ham hmn => ?_)) | (show pureK _ _ _; (first | refine slice_nil_no (ti 116 rfl) rfl ham ?_)) | (show callK _ 95 _ _ _ _ _; refine call_bools (f := 95) (hasL n) 7 rfl Try.call95 (fun ρ w' hw => has_any w' n) (fun h ah hhl hah hhn => ?_)) | (show drawK _ _ _ _ _ _ _ _; refine draw_quiet tabOk mixed (by kernel_rfl) ?_) | (show Wp _ _ _ _ _ _ _; refine Wp.go tabOk rfl ?_) | (show @cmpK _ _ _; (first | refine cmpY ?_ | refine cmpN ?_ | (refine cmp_both ?_ ?_ <;> intro _))) | (show wrapK _ _ _; refine wrapA ?_) | (show leK _ _ _; refine leA ?_) | (show roomK _ _ _; refine roomA ?_) | (show ltK _ _ _; refine ltA ?_) | (show _ ∧ _; refine ⟨?_, ?_⟩) | (show keepK _ _ _ _ _; refine keepA ?_) | refine own_keep ?_ | refine ap_old ?_))
  refine Wp.rounds 8 ?_
  (repeat' ((conv => whnf) <;> first | (show pureK _ _ _; (first | refine slice_nil_no (ti 116 rfl) rfl ham ?_)) | (show callK _ 95 _ _ _ _ _; refine call_bools (f := 95) (hasL n) 7 rfl Try.call95 (fun ρ w' hw => has_any w' n) (fun h ah hhl hah hhn => ?_)) | (show callK _ 34 _ _ _ _ _; refine call_pure (f := 34) Try.call34 _ (fun ρ w' hw => refEntries_any w' n.shape.base n.shape.cap n.shape.xs (holds_of_abs hw fun R h => rows_base h.1.1 hn.shape.rows)) ?_) | (show callQ _ 34 _ _ _ _ _; refine callQ_of (f := 34) Try.call34 _ (fun ρ w' hw => refEntries_any w' n.shape.base n.shape.cap n.shape.xs (holds_of_abs hw fun R h => rows_base h.1.1 hn.shape.rows)) ?_) | (show idxK _ _ _ _ _; (first | refine idx_of ah 0 hah rfl (by omega) ?_ | refine idx_of am 0 ham rfl (by omega) ?_ | refine idx_of ah 1 hah rfl (by omega) ?_ | refine idx_of am 1 ham rfl (by omega) ?_ | refine idx_of ah 2 hah rfl (by omega) ?_ | refine idx_of am 2 ham rfl (by omega) ?_ | refine idx_of ah 3 hah rfl (by omega) ?_ | refine idx_of am 3 ham rfl (by omega) ?_ | refine idx_of ah 4 hah rfl (by omega) ?_ | refine idx_of am 4 ham rfl (by omega) ?_ | refine idx_of ah 5 hah rfl (by omega) ?_ | refine idx_of am 5 ham rfl (by omega) ?_ | refine idx_of ah 6 hah rfl (by omega) ?_ | refine idx_of am 6 ham rfl (by omega) ?_ | refine idx_of _ 0 (hbase (by omega)) rfl (by omega) ?_)) | (show roK _ _ _; (first | (refine ro_prop (j := 0) (n.a ≠ 0) (fun R w' h => boolsA_in hhl hah (by first | exact h.2 | exact h.1.2)) (show 0 < 7 by decide) rfl ?_ ?_ <;> intro _) | refine ro_bool (j := 0) (fun R w' h => boolsA_in hml ham (by first | exact h.1.2 | exact h.2)) (show 0 < 7 by decide) ?_ | (refine ro_prop (j := 1) (n.b ≠ 0) (fun R w' h => boolsA_in hhl hah (by first | exact h.2 | exact h.1.2)) (show 1 < 7 by decide) rfl ?_ ?_ <;> intro _) | refine ro_bool (j := 1) (fun R w' h => boolsA_in hml ham (by first | exact h.1.2 | exact h.2)) (show 1 < 7 by decide) ?_ | (refine ro_prop (j := 2) ((n.shape.xs.length : Int) > 0) (fun R w' h => boolsA_in hhl hah (by first | exact h.2 | exact h.1.2)) (show 2 < 7 by decide) rfl ?_ ?_ <;> intro _) | refine ro_bool (j := 2) (fun R w' h => boolsA_in hml ham (by first | exact h.1.2 | exact h.2)) (show 2 < 7 by decide) ?_ | (refine ro_prop (j := 3) (n.lo ≠ 0 ∨ n.hi ≠ 0) (fun R w' h => boolsA_in hhl hah (by first | exact h.2 | exact h.1.2)) (show 3 < 7 by decide) rfl ?_ ?_ <;> intro _) | refine ro_bool (j := 3) (fun R w' h => boolsA_in hml ham (by first | exact h.1.2 | exact h.2)) (show 3 < 7 by decide) ?_ | (refine ro_prop (j := 4) (n.size ≠ 0) (fun R w' h => boolsA_in hhl hah (by first | exact h.2 | exact h.1.2)) (show 4 < 7 by decide) rfl ?_ ?_ <;> intro _) | refine ro_bool (j := 4) (fun R w' h => boolsA_in hml ham (by first | exact h.1.2 | exact h.2)) (show 4 < 7 by decide) ?_ | (refine ro_prop (j := 5) ((n.data.xs.length : Int) > 0) (fun R w' h => boolsA_in hhl hah (by first | exact h.2 | exact h.1.2)) (show 5 < 7 by decide) rfl ?_ ?_ <;> intro _) | refine ro_bool (j := 5) (fun R w' h => boolsA_in hml ham (by first | exact h.1.2 | exact h.2)) (show 5 < 7 by decide) ?_ | (refine ro_prop (j := 6) ((n.bias.xs.length : Int) > 0) (fun R w' h => boolsA_in hhl hah (by first | exact h.2 | exact h.1.2)) (show 6 < 7 by decide) rfl ?_ ?_ <;> intro _) | refine ro_bool (j := 6) (fun R w' h => boolsA_in hml ham (by first | exact h.1.2 | exact h.2)) (show 6 < 7 by decide) ?_ | refine ro_int (j := 0) (fun R w' h => hn.shape.at_ (hbase (by omega)) R w' (by first | exact h.1.1 | exact h.1)) (by omega) ?_)) | (show drawK _ _ _ _ _ _ _ _; refine draw_quiet tabOk mixed (by kernel_rfl) ?_) | (show Wp _ _ _ _ _ _ _; refine Wp.go tabOk rfl ?_) | (show @cmpK _ _ _; (first | refine cmpY ?_ | refine cmpN ?_ | (refine cmp_both ?_ ?_ <;> intro _))) | (show wrapK _ _ _; refine wrapA ?_) | (show leK _ _ _; refine leA ?_) | (show roomK _ _ _; refine roomA ?_) | (show ltK _ _ _; refine ltA ?_) | (show _ ∧ _; refine ⟨?_, ?_⟩) | (show keepK _ _ _ _ _; refine keepA ?_) | refine own_keep ?_ | refine ap_old ?_))
  all_goals (conv => whnf)
  all_goals refine ends_bool (B := ⟨w, []⟩) (S := ((baseA w).and ((boolsA m).past w.heap.size)).and ((boolsA h).past w.heap.size)) (fun _ _ h => h.1.1) rfl ?_
  all_goals rw [hfb]
  all_goals simp only [Bool.and_eq_true, Bool.and_eq_false_iff, decide_eq_true_eq, decide_eq_false_iff_not, reduceCtorEq, and_false, and_true, or_false, false_or]
  all_goals first | omega | (simp; omega)
set_option maxRecDepth 20000 in
set_option maxHeartbeats 8000000 in
theorem refForm_3 (w : World) (n : NodeV) (hn : n.ok w) (at_ : Int) (hk : n.kind = 3) :
    Calls Try.prog 67 #[.agg n.cells.toArray, .int .i64 at_] w fun e w' => e = .returned (.bool (formB n at_)) ∧ Ext w w' := by
  have hm : mayL n.kind = some [true, false, false, false, false, true, true] := by unfold mayL; rw [hk]; rfl
  obtain ⟨a, hbase⟩ := ints_base hn.shape
  have hfb : formB n at_ = formB n at_ := rfl
  conv at hfb => rhs; unfold formB
  repeat (first | rw [if_pos (by omega)] at hfb | rw [if_neg (by omega)] at hfb)
  rw [lacks_eq] at hfb
  simp only [aheadB] at hfb
  refine calls_of tab tabOk Try.func67 rfl rfl rfl [] (fun _ => ⟨none, 0⟩) [.agg [.c (.int .i64 n.kind), .c (.int .i64 n.a), .c (.int .i64 n.b), .c n.shape.val, .c (.int .i64 n.lo), .c (.int .i64 n.hi), .c (.int .i64 n.size), .c n.data.val, .c n.bias.val], .c (.int .i64 at_)] [] (baseA w) 0 rfl rfl (by show 2 ≤ _; decide) (abs_base w) ?_
  (repeat' ((conv => whnf) <;> first | (show callK _ 94 _ _ _ _ _; refine call_bools (f := 94) [true, false, false, false, false, true, true] 7 rfl Try.call94 (fun ρ w' hw => may_any w' n.kind [true, false, false, false, false, true, true] hm) (fun m am hml ham hmn => ?_)) | (show pureK _ _ _; (first | refine slice_nil_no (ti 116 rfl) rfl ham ?_)) | (show callK _ 95 _ _ _ _ _; refine call_bools (f := 95) (hasL n) 7 rfl Try.call95 (fun ρ w' hw => has_any w' n) (fun h ah hhl hah hhn => ?_)) | (show drawK _ _ _ _ _ _ _ _; refine draw_quiet tabOk mixed (by kernel_rfl) ?_) | (show Wp _ _ _ _ _ _ _; refine Wp.go tabOk rfl ?_) | (show @cmpK _ _ _; (first | refine cmpY ?_ | refine cmpN ?_ | (refine cmp_both ?_ ?_ <;> intro _))) | (show wrapK _ _ _; refine wrapA ?_) | (show leK _ _ _; refine leA ?_) | (show roomK _ _ _; refine roomA ?_) | (show ltK _ _ _; refine ltA ?_) | (show _ ∧ _; refine ⟨?_, ?_⟩) | (show keepK _ _ _ _ _; refine keepA ?_) | refine own_keep ?_ | refine ap_old ?_))
  refine Wp.rounds 8 ?_
  (repeat' ((conv => whnf) <;> first | (show pureK _ _ _; (first | refine slice_nil_no (ti 116 rfl) rfl ham ?_)) | (show callK _ 95 _ _ _ _ _; refine call_bools (f := 95) (hasL n) 7 rfl Try.call95 (fun ρ w' hw => has_any w' n) (fun h ah hhl hah hhn => ?_)) | (show callK _ 34 _ _ _ _ _; refine call_pure (f := 34) Try.call34 _ (fun ρ w' hw => refEntries_any w' n.shape.base n.shape.cap n.shape.xs (holds_of_abs hw fun R h => rows_base h.1.1 hn.shape.rows)) ?_) | (show callQ _ 34 _ _ _ _ _; refine callQ_of (f := 34) Try.call34 _ (fun ρ w' hw => refEntries_any w' n.shape.base n.shape.cap n.shape.xs (holds_of_abs hw fun R h => rows_base h.1.1 hn.shape.rows)) ?_) | (show idxK _ _ _ _ _; (first | refine idx_of ah 0 hah rfl (by omega) ?_ | refine idx_of am 0 ham rfl (by omega) ?_ | refine idx_of ah 1 hah rfl (by omega) ?_ | refine idx_of am 1 ham rfl (by omega) ?_ | refine idx_of ah 2 hah rfl (by omega) ?_ | refine idx_of am 2 ham rfl (by omega) ?_ | refine idx_of ah 3 hah rfl (by omega) ?_ | refine idx_of am 3 ham rfl (by omega) ?_ | refine idx_of ah 4 hah rfl (by omega) ?_ | refine idx_of am 4 ham rfl (by omega) ?_ | refine idx_of ah 5 hah rfl (by omega) ?_ | refine idx_of am 5 ham rfl (by omega) ?_ | refine idx_of ah 6 hah rfl (by omega) ?_ | refine idx_of am 6 ham rfl (by omega) ?_ | refine idx_of _ 0 (hbase (by omega)) rfl (by omega) ?_)) | (show roK _ _ _; (first | (refine ro_prop (j := 0) (n.a ≠ 0) (fun R w' h => boolsA_in hhl hah (by first | exact h.2 | exact h.1.2)) (show 0 < 7 by decide) rfl ?_ ?_ <;> intro _) | refine ro_bool (j := 0) (fun R w' h => boolsA_in hml ham (by first | exact h.1.2 | exact h.2)) (show 0 < 7 by decide) ?_ | (refine ro_prop (j := 1) (n.b ≠ 0) (fun R w' h => boolsA_in hhl hah (by first | exact h.2 | exact h.1.2)) (show 1 < 7 by decide) rfl ?_ ?_ <;> intro _) | refine ro_bool (j := 1) (fun R w' h => boolsA_in hml ham (by first | exact h.1.2 | exact h.2)) (show 1 < 7 by decide) ?_ | (refine ro_prop (j := 2) ((n.shape.xs.length : Int) > 0) (fun R w' h => boolsA_in hhl hah (by first | exact h.2 | exact h.1.2)) (show 2 < 7 by decide) rfl ?_ ?_ <;> intro _) | refine ro_bool (j := 2) (fun R w' h => boolsA_in hml ham (by first | exact h.1.2 | exact h.2)) (show 2 < 7 by decide) ?_ | (refine ro_prop (j := 3) (n.lo ≠ 0 ∨ n.hi ≠ 0) (fun R w' h => boolsA_in hhl hah (by first | exact h.2 | exact h.1.2)) (show 3 < 7 by decide) rfl ?_ ?_ <;> intro _) | refine ro_bool (j := 3) (fun R w' h => boolsA_in hml ham (by first | exact h.1.2 | exact h.2)) (show 3 < 7 by decide) ?_ | (refine ro_prop (j := 4) (n.size ≠ 0) (fun R w' h => boolsA_in hhl hah (by first | exact h.2 | exact h.1.2)) (show 4 < 7 by decide) rfl ?_ ?_ <;> intro _) | refine ro_bool (j := 4) (fun R w' h => boolsA_in hml ham (by first | exact h.1.2 | exact h.2)) (show 4 < 7 by decide) ?_ | (refine ro_prop (j := 5) ((n.data.xs.length : Int) > 0) (fun R w' h => boolsA_in hhl hah (by first | exact h.2 | exact h.1.2)) (show 5 < 7 by decide) rfl ?_ ?_ <;> intro _) | refine ro_bool (j := 5) (fun R w' h => boolsA_in hml ham (by first | exact h.1.2 | exact h.2)) (show 5 < 7 by decide) ?_ | (refine ro_prop (j := 6) ((n.bias.xs.length : Int) > 0) (fun R w' h => boolsA_in hhl hah (by first | exact h.2 | exact h.1.2)) (show 6 < 7 by decide) rfl ?_ ?_ <;> intro _) | refine ro_bool (j := 6) (fun R w' h => boolsA_in hml ham (by first | exact h.1.2 | exact h.2)) (show 6 < 7 by decide) ?_ | refine ro_int (j := 0) (fun R w' h => hn.shape.at_ (hbase (by omega)) R w' (by first | exact h.1.1 | exact h.1)) (by omega) ?_)) | (show drawK _ _ _ _ _ _ _ _; refine draw_quiet tabOk mixed (by kernel_rfl) ?_) | (show Wp _ _ _ _ _ _ _; refine Wp.go tabOk rfl ?_) | (show @cmpK _ _ _; (first | refine cmpY ?_ | refine cmpN ?_ | (refine cmp_both ?_ ?_ <;> intro _))) | (show wrapK _ _ _; refine wrapA ?_) | (show leK _ _ _; refine leA ?_) | (show roomK _ _ _; refine roomA ?_) | (show ltK _ _ _; refine ltA ?_) | (show _ ∧ _; refine ⟨?_, ?_⟩) | (show keepK _ _ _ _ _; refine keepA ?_) | refine own_keep ?_ | refine ap_old ?_))
  all_goals (conv => whnf)
  all_goals refine ends_bool (B := ⟨w, []⟩) (S := ((baseA w).and ((boolsA m).past w.heap.size)).and ((boolsA h).past w.heap.size)) (fun _ _ h => h.1.1) rfl ?_
  all_goals rw [hfb]
  all_goals simp only [Bool.and_eq_true, Bool.and_eq_false_iff, decide_eq_true_eq, decide_eq_false_iff_not, reduceCtorEq, and_false, and_true, or_false, false_or]
  all_goals first | omega | (simp; omega)
set_option maxRecDepth 20000 in
set_option maxHeartbeats 8000000 in
theorem refForm_5 (w : World) (n : NodeV) (hn : n.ok w) (at_ : Int) (hk : n.kind = 5) :
    Calls Try.prog 67 #[.agg n.cells.toArray, .int .i64 at_] w fun e w' => e = .returned (.bool (formB n at_)) ∧ Ext w w' := by
  have hm : mayL n.kind = some [true, false, false, false, true, false, false] := by unfold mayL; rw [hk]; rfl
  obtain ⟨a, hbase⟩ := ints_base hn.shape
  have hfb : formB n at_ = formB n at_ := rfl
  conv at hfb => rhs; unfold formB
  repeat (first | rw [if_pos (by omega)] at hfb | rw [if_neg (by omega)] at hfb)
  rw [lacks_eq] at hfb
  simp only [aheadB] at hfb
  refine calls_of tab tabOk Try.func67 rfl rfl rfl [] (fun _ => ⟨none, 0⟩) [.agg [.c (.int .i64 n.kind), .c (.int .i64 n.a), .c (.int .i64 n.b), .c n.shape.val, .c (.int .i64 n.lo), .c (.int .i64 n.hi), .c (.int .i64 n.size), .c n.data.val, .c n.bias.val], .c (.int .i64 at_)] [] (baseA w) 0 rfl rfl (by show 2 ≤ _; decide) (abs_base w) ?_
  (repeat' ((conv => whnf) <;> first | (show callK _ 94 _ _ _ _ _; refine call_bools (f := 94) [true, false, false, false, true, false, false] 7 rfl Try.call94 (fun ρ w' hw => may_any w' n.kind [true, false, false, false, true, false, false] hm) (fun m am hml ham hmn => ?_)) | (show pureK _ _ _; (first | refine slice_nil_no (ti 116 rfl) rfl ham ?_)) | (show callK _ 95 _ _ _ _ _; refine call_bools (f := 95) (hasL n) 7 rfl Try.call95 (fun ρ w' hw => has_any w' n) (fun h ah hhl hah hhn => ?_)) | (show drawK _ _ _ _ _ _ _ _; refine draw_quiet tabOk mixed (by kernel_rfl) ?_) | (show Wp _ _ _ _ _ _ _; refine Wp.go tabOk rfl ?_) | (show @cmpK _ _ _; (first | refine cmpY ?_ | refine cmpN ?_ | (refine cmp_both ?_ ?_ <;> intro _))) | (show wrapK _ _ _; refine wrapA ?_) | (show leK _ _ _; refine leA ?_) | (show roomK _ _ _; refine roomA ?_) | (show ltK _ _ _; refine ltA ?_) | (show _ ∧ _; refine ⟨?_, ?_⟩) | (show keepK _ _ _ _ _; refine keepA ?_) | refine own_keep ?_ | refine ap_old ?_))
  refine Wp.rounds 8 ?_
  (repeat' ((conv => whnf) <;> first | (show pureK _ _ _; (first | refine slice_nil_no (ti 116 rfl) rfl ham ?_)) | (show callK _ 95 _ _ _ _ _; refine call_bools (f := 95) (hasL n) 7 rfl Try.call95 (fun ρ w' hw => has_any w' n) (fun h ah hhl hah hhn => ?_)) | (show callK _ 34 _ _ _ _ _; refine call_pure (f := 34) Try.call34 _ (fun ρ w' hw => refEntries_any w' n.shape.base n.shape.cap n.shape.xs (holds_of_abs hw fun R h => rows_base h.1.1 hn.shape.rows)) ?_) | (show callQ _ 34 _ _ _ _ _; refine callQ_of (f := 34) Try.call34 _ (fun ρ w' hw => refEntries_any w' n.shape.base n.shape.cap n.shape.xs (holds_of_abs hw fun R h => rows_base h.1.1 hn.shape.rows)) ?_) | (show idxK _ _ _ _ _; (first | refine idx_of ah 0 hah rfl (by omega) ?_ | refine idx_of am 0 ham rfl (by omega) ?_ | refine idx_of ah 1 hah rfl (by omega) ?_ | refine idx_of am 1 ham rfl (by omega) ?_ | refine idx_of ah 2 hah rfl (by omega) ?_ | refine idx_of am 2 ham rfl (by omega) ?_ | refine idx_of ah 3 hah rfl (by omega) ?_ | refine idx_of am 3 ham rfl (by omega) ?_ | refine idx_of ah 4 hah rfl (by omega) ?_ | refine idx_of am 4 ham rfl (by omega) ?_ | refine idx_of ah 5 hah rfl (by omega) ?_ | refine idx_of am 5 ham rfl (by omega) ?_ | refine idx_of ah 6 hah rfl (by omega) ?_ | refine idx_of am 6 ham rfl (by omega) ?_ | refine idx_of _ 0 (hbase (by omega)) rfl (by omega) ?_)) | (show roK _ _ _; (first | (refine ro_prop (j := 0) (n.a ≠ 0) (fun R w' h => boolsA_in hhl hah (by first | exact h.2 | exact h.1.2)) (show 0 < 7 by decide) rfl ?_ ?_ <;> intro _) | refine ro_bool (j := 0) (fun R w' h => boolsA_in hml ham (by first | exact h.1.2 | exact h.2)) (show 0 < 7 by decide) ?_ | (refine ro_prop (j := 1) (n.b ≠ 0) (fun R w' h => boolsA_in hhl hah (by first | exact h.2 | exact h.1.2)) (show 1 < 7 by decide) rfl ?_ ?_ <;> intro _) | refine ro_bool (j := 1) (fun R w' h => boolsA_in hml ham (by first | exact h.1.2 | exact h.2)) (show 1 < 7 by decide) ?_ | (refine ro_prop (j := 2) ((n.shape.xs.length : Int) > 0) (fun R w' h => boolsA_in hhl hah (by first | exact h.2 | exact h.1.2)) (show 2 < 7 by decide) rfl ?_ ?_ <;> intro _) | refine ro_bool (j := 2) (fun R w' h => boolsA_in hml ham (by first | exact h.1.2 | exact h.2)) (show 2 < 7 by decide) ?_ | (refine ro_prop (j := 3) (n.lo ≠ 0 ∨ n.hi ≠ 0) (fun R w' h => boolsA_in hhl hah (by first | exact h.2 | exact h.1.2)) (show 3 < 7 by decide) rfl ?_ ?_ <;> intro _) | refine ro_bool (j := 3) (fun R w' h => boolsA_in hml ham (by first | exact h.1.2 | exact h.2)) (show 3 < 7 by decide) ?_ | (refine ro_prop (j := 4) (n.size ≠ 0) (fun R w' h => boolsA_in hhl hah (by first | exact h.2 | exact h.1.2)) (show 4 < 7 by decide) rfl ?_ ?_ <;> intro _) | refine ro_bool (j := 4) (fun R w' h => boolsA_in hml ham (by first | exact h.1.2 | exact h.2)) (show 4 < 7 by decide) ?_ | (refine ro_prop (j := 5) ((n.data.xs.length : Int) > 0) (fun R w' h => boolsA_in hhl hah (by first | exact h.2 | exact h.1.2)) (show 5 < 7 by decide) rfl ?_ ?_ <;> intro _) | refine ro_bool (j := 5) (fun R w' h => boolsA_in hml ham (by first | exact h.1.2 | exact h.2)) (show 5 < 7 by decide) ?_ | (refine ro_prop (j := 6) ((n.bias.xs.length : Int) > 0) (fun R w' h => boolsA_in hhl hah (by first | exact h.2 | exact h.1.2)) (show 6 < 7 by decide) rfl ?_ ?_ <;> intro _) | refine ro_bool (j := 6) (fun R w' h => boolsA_in hml ham (by first | exact h.1.2 | exact h.2)) (show 6 < 7 by decide) ?_ | refine ro_int (j := 0) (fun R w' h => hn.shape.at_ (hbase (by omega)) R w' (by first | exact h.1.1 | exact h.1)) (by omega) ?_)) | (show drawK _ _ _ _ _ _ _ _; refine draw_quiet tabOk mixed (by kernel_rfl) ?_) | (show Wp _ _ _ _ _ _ _; refine Wp.go tabOk rfl ?_) | (show @cmpK _ _ _; (first | refine cmpY ?_ | refine cmpN ?_ | (refine cmp_both ?_ ?_ <;> intro _))) | (show wrapK _ _ _; refine wrapA ?_) | (show leK _ _ _; refine leA ?_) | (show roomK _ _ _; refine roomA ?_) | (show ltK _ _ _; refine ltA ?_) | (show _ ∧ _; refine ⟨?_, ?_⟩) | (show keepK _ _ _ _ _; refine keepA ?_) | refine own_keep ?_ | refine ap_old ?_))
  all_goals (conv => whnf)
  all_goals refine ends_bool (B := ⟨w, []⟩) (S := ((baseA w).and ((boolsA m).past w.heap.size)).and ((boolsA h).past w.heap.size)) (fun _ _ h => h.1.1) rfl ?_
  all_goals rw [hfb]
  all_goals simp only [Bool.and_eq_true, Bool.and_eq_false_iff, decide_eq_true_eq, decide_eq_false_iff_not, reduceCtorEq, and_false, and_true, or_false, false_or]
  all_goals first | omega | (simp; omega)
set_option maxRecDepth 20000 in
set_option maxHeartbeats 8000000 in
theorem refForm_6 (w : World) (n : NodeV) (hn : n.ok w) (at_ : Int) (hk : n.kind = 6) :
    Calls Try.prog 67 #[.agg n.cells.toArray, .int .i64 at_] w fun e w' => e = .returned (.bool (formB n at_)) ∧ Ext w w' := by
  have hm : mayL n.kind = some [true, true, false, false, false, false, false] := by unfold mayL; rw [hk]; rfl
  obtain ⟨a, hbase⟩ := ints_base hn.shape
  have hfb : formB n at_ = formB n at_ := rfl
  conv at hfb => rhs; unfold formB
  repeat (first | rw [if_pos (by omega)] at hfb | rw [if_neg (by omega)] at hfb)
  rw [lacks_eq] at hfb
  simp only [aheadB] at hfb
  refine calls_of tab tabOk Try.func67 rfl rfl rfl [] (fun _ => ⟨none, 0⟩) [.agg [.c (.int .i64 n.kind), .c (.int .i64 n.a), .c (.int .i64 n.b), .c n.shape.val, .c (.int .i64 n.lo), .c (.int .i64 n.hi), .c (.int .i64 n.size), .c n.data.val, .c n.bias.val], .c (.int .i64 at_)] [] (baseA w) 0 rfl rfl (by show 2 ≤ _; decide) (abs_base w) ?_
  (repeat' ((conv => whnf) <;> first | (show callK _ 94 _ _ _ _ _; refine call_bools (f := 94) [true, true, false, false, false, false, false] 7 rfl Try.call94 (fun ρ w' hw => may_any w' n.kind [true, true, false, false, false, false, false] hm) (fun m am hml ham hmn => ?_)) | (show pureK _ _ _; (first | refine slice_nil_no (ti 116 rfl) rfl ham ?_)) | (show callK _ 95 _ _ _ _ _; refine call_bools (f := 95) (hasL n) 7 rfl Try.call95 (fun ρ w' hw => has_any w' n) (fun h ah hhl hah hhn => ?_)) | (show drawK _ _ _ _ _ _ _ _; refine draw_quiet tabOk mixed (by kernel_rfl) ?_) | (show Wp _ _ _ _ _ _ _; refine Wp.go tabOk rfl ?_) | (show @cmpK _ _ _; (first | refine cmpY ?_ | refine cmpN ?_ | (refine cmp_both ?_ ?_ <;> intro _))) | (show wrapK _ _ _; refine wrapA ?_) | (show leK _ _ _; refine leA ?_) | (show roomK _ _ _; refine roomA ?_) | (show ltK _ _ _; refine ltA ?_) | (show _ ∧ _; refine ⟨?_, ?_⟩) | (show keepK _ _ _ _ _; refine keepA ?_) | refine own_keep ?_ | refine ap_old ?_))
  refine Wp.rounds 8 ?_
  (repeat' ((conv => whnf) <;> first | (show pureK _ _ _; (first | refine slice_nil_no (ti 116 rfl) rfl ham ?_)) | (show callK _ 95 _ _ _ _ _; refine call_bools (f := 95) (hasL n) 7 rfl Try.call95 (fun ρ w' hw => has_any w' n) (fun h ah hhl hah hhn => ?_)) | (show callK _ 34 _ _ _ _ _; refine call_pure (f := 34) Try.call34 _ (fun ρ w' hw => refEntries_any w' n.shape.base n.shape.cap n.shape.xs (holds_of_abs hw fun R h => rows_base h.1.1 hn.shape.rows)) ?_) | (show callQ _ 34 _ _ _ _ _; refine callQ_of (f := 34) Try.call34 _ (fun ρ w' hw => refEntries_any w' n.shape.base n.shape.cap n.shape.xs (holds_of_abs hw fun R h => rows_base h.1.1 hn.shape.rows)) ?_) | (show idxK _ _ _ _ _; (first | refine idx_of ah 0 hah rfl (by omega) ?_ | refine idx_of am 0 ham rfl (by omega) ?_ | refine idx_of ah 1 hah rfl (by omega) ?_ | refine idx_of am 1 ham rfl (by omega) ?_ | refine idx_of ah 2 hah rfl (by omega) ?_ | refine idx_of am 2 ham rfl (by omega) ?_ | refine idx_of ah 3 hah rfl (by omega) ?_ | refine idx_of am 3 ham rfl (by omega) ?_ | refine idx_of ah 4 hah rfl (by omega) ?_ | refine idx_of am 4 ham rfl (by omega) ?_ | refine idx_of ah 5 hah rfl (by omega) ?_ | refine idx_of am 5 ham rfl (by omega) ?_ | refine idx_of ah 6 hah rfl (by omega) ?_ | refine idx_of am 6 ham rfl (by omega) ?_ | refine idx_of _ 0 (hbase (by omega)) rfl (by omega) ?_)) | (show roK _ _ _; (first | (refine ro_prop (j := 0) (n.a ≠ 0) (fun R w' h => boolsA_in hhl hah (by first | exact h.2 | exact h.1.2)) (show 0 < 7 by decide) rfl ?_ ?_ <;> intro _) | refine ro_bool (j := 0) (fun R w' h => boolsA_in hml ham (by first | exact h.1.2 | exact h.2)) (show 0 < 7 by decide) ?_ | (refine ro_prop (j := 1) (n.b ≠ 0) (fun R w' h => boolsA_in hhl hah (by first | exact h.2 | exact h.1.2)) (show 1 < 7 by decide) rfl ?_ ?_ <;> intro _) | refine ro_bool (j := 1) (fun R w' h => boolsA_in hml ham (by first | exact h.1.2 | exact h.2)) (show 1 < 7 by decide) ?_ | (refine ro_prop (j := 2) ((n.shape.xs.length : Int) > 0) (fun R w' h => boolsA_in hhl hah (by first | exact h.2 | exact h.1.2)) (show 2 < 7 by decide) rfl ?_ ?_ <;> intro _) | refine ro_bool (j := 2) (fun R w' h => boolsA_in hml ham (by first | exact h.1.2 | exact h.2)) (show 2 < 7 by decide) ?_ | (refine ro_prop (j := 3) (n.lo ≠ 0 ∨ n.hi ≠ 0) (fun R w' h => boolsA_in hhl hah (by first | exact h.2 | exact h.1.2)) (show 3 < 7 by decide) rfl ?_ ?_ <;> intro _) | refine ro_bool (j := 3) (fun R w' h => boolsA_in hml ham (by first | exact h.1.2 | exact h.2)) (show 3 < 7 by decide) ?_ | (refine ro_prop (j := 4) (n.size ≠ 0) (fun R w' h => boolsA_in hhl hah (by first | exact h.2 | exact h.1.2)) (show 4 < 7 by decide) rfl ?_ ?_ <;> intro _) | refine ro_bool (j := 4) (fun R w' h => boolsA_in hml ham (by first | exact h.1.2 | exact h.2)) (show 4 < 7 by decide) ?_ | (refine ro_prop (j := 5) ((n.data.xs.length : Int) > 0) (fun R w' h => boolsA_in hhl hah (by first | exact h.2 | exact h.1.2)) (show 5 < 7 by decide) rfl ?_ ?_ <;> intro _) | refine ro_bool (j := 5) (fun R w' h => boolsA_in hml ham (by first | exact h.1.2 | exact h.2)) (show 5 < 7 by decide) ?_ | (refine ro_prop (j := 6) ((n.bias.xs.length : Int) > 0) (fun R w' h => boolsA_in hhl hah (by first | exact h.2 | exact h.1.2)) (show 6 < 7 by decide) rfl ?_ ?_ <;> intro _) | refine ro_bool (j := 6) (fun R w' h => boolsA_in hml ham (by first | exact h.1.2 | exact h.2)) (show 6 < 7 by decide) ?_ | refine ro_int (j := 0) (fun R w' h => hn.shape.at_ (hbase (by omega)) R w' (by first | exact h.1.1 | exact h.1)) (by omega) ?_)) | (show drawK _ _ _ _ _ _ _ _; refine draw_quiet tabOk mixed (by kernel_rfl) ?_) | (show Wp _ _ _ _ _ _ _; refine Wp.go tabOk rfl ?_) | (show @cmpK _ _ _; (first | refine cmpY ?_ | refine cmpN ?_ | (refine cmp_both ?_ ?_ <;> intro _))) | (show wrapK _ _ _; refine wrapA ?_) | (show leK _ _ _; refine leA ?_) | (show roomK _ _ _; refine roomA ?_) | (show ltK _ _ _; refine ltA ?_) | (show _ ∧ _; refine ⟨?_, ?_⟩) | (show keepK _ _ _ _ _; refine keepA ?_) | refine own_keep ?_ | refine ap_old ?_))
  all_goals (conv => whnf)
  all_goals refine ends_bool (B := ⟨w, []⟩) (S := ((baseA w).and ((boolsA m).past w.heap.size)).and ((boolsA h).past w.heap.size)) (fun _ _ h => h.1.1) rfl ?_
  all_goals rw [hfb]
  all_goals simp only [Bool.and_eq_true, Bool.and_eq_false_iff, decide_eq_true_eq, decide_eq_false_iff_not, reduceCtorEq, and_false, and_true, or_false, false_or]
  all_goals first | omega | (simp; omega)
set_option maxRecDepth 20000 in
set_option maxHeartbeats 8000000 in
theorem refForm_7 (w : World) (n : NodeV) (hn : n.ok w) (at_ : Int) (hk : n.kind = 7) :
    Calls Try.prog 67 #[.agg n.cells.toArray, .int .i64 at_] w fun e w' => e = .returned (.bool (formB n at_)) ∧ Ext w w' := by
  have hm : mayL n.kind = some [true, false, false, false, false, true, false] := by unfold mayL; rw [hk]; rfl
  obtain ⟨a, hbase⟩ := ints_base hn.shape
  have hfb : formB n at_ = formB n at_ := rfl
  conv at hfb => rhs; unfold formB
  repeat (first | rw [if_pos (by omega)] at hfb | rw [if_neg (by omega)] at hfb)
  rw [lacks_eq] at hfb
  simp only [aheadB] at hfb
  refine calls_of tab tabOk Try.func67 rfl rfl rfl [] (fun _ => ⟨none, 0⟩) [.agg [.c (.int .i64 n.kind), .c (.int .i64 n.a), .c (.int .i64 n.b), .c n.shape.val, .c (.int .i64 n.lo), .c (.int .i64 n.hi), .c (.int .i64 n.size), .c n.data.val, .c n.bias.val], .c (.int .i64 at_)] [] (baseA w) 0 rfl rfl (by show 2 ≤ _; decide) (abs_base w) ?_
  (repeat' ((conv => whnf) <;> first | (show callK _ 94 _ _ _ _ _; refine call_bools (f := 94) [true, false, false, false, false, true, false] 7 rfl Try.call94 (fun ρ w' hw => may_any w' n.kind [true, false, false, false, false, true, false] hm) (fun m am hml ham hmn => ?_)) | (show pureK _ _ _; (first | refine slice_nil_no (ti 116 rfl) rfl ham ?_)) | (show callK _ 95 _ _ _ _ _; refine call_bools (f := 95) (hasL n) 7 rfl Try.call95 (fun ρ w' hw => has_any w' n) (fun h ah hhl hah hhn => ?_)) | (show drawK _ _ _ _ _ _ _ _; refine draw_quiet tabOk mixed (by kernel_rfl) ?_) | (show Wp _ _ _ _ _ _ _; refine Wp.go tabOk rfl ?_) | (show @cmpK _ _ _; (first | refine cmpY ?_ | refine cmpN ?_ | (refine cmp_both ?_ ?_ <;> intro _))) | (show wrapK _ _ _; refine wrapA ?_) | (show leK _ _ _; refine leA ?_) | (show roomK _ _ _; refine roomA ?_) | (show ltK _ _ _; refine ltA ?_) | (show _ ∧ _; refine ⟨?_, ?_⟩) | (show keepK _ _ _ _ _; refine keepA ?_) | refine own_keep ?_ | refine ap_old ?_))
  refine Wp.rounds 8 ?_
  (repeat' ((conv => whnf) <;> first | (show pureK _ _ _; (first | refine slice_nil_no (ti 116 rfl) rfl ham ?_)) | (show callK _ 95 _ _ _ _ _; refine call_bools (f := 95) (hasL n) 7 rfl Try.call95 (fun ρ w' hw => has_any w' n) (fun h ah hhl hah hhn => ?_)) | (show callK _ 34 _ _ _ _ _; refine call_pure (f := 34) Try.call34 _ (fun ρ w' hw => refEntries_any w' n.shape.base n.shape.cap n.shape.xs (holds_of_abs hw fun R h => rows_base h.1.1 hn.shape.rows)) ?_) | (show callQ _ 34 _ _ _ _ _; refine callQ_of (f := 34) Try.call34 _ (fun ρ w' hw => refEntries_any w' n.shape.base n.shape.cap n.shape.xs (holds_of_abs hw fun R h => rows_base h.1.1 hn.shape.rows)) ?_) | (show idxK _ _ _ _ _; (first | refine idx_of ah 0 hah rfl (by omega) ?_ | refine idx_of am 0 ham rfl (by omega) ?_ | refine idx_of ah 1 hah rfl (by omega) ?_ | refine idx_of am 1 ham rfl (by omega) ?_ | refine idx_of ah 2 hah rfl (by omega) ?_ | refine idx_of am 2 ham rfl (by omega) ?_ | refine idx_of ah 3 hah rfl (by omega) ?_ | refine idx_of am 3 ham rfl (by omega) ?_ | refine idx_of ah 4 hah rfl (by omega) ?_ | refine idx_of am 4 ham rfl (by omega) ?_ | refine idx_of ah 5 hah rfl (by omega) ?_ | refine idx_of am 5 ham rfl (by omega) ?_ | refine idx_of ah 6 hah rfl (by omega) ?_ | refine idx_of am 6 ham rfl (by omega) ?_ | refine idx_of _ 0 (hbase (by omega)) rfl (by omega) ?_)) | (show roK _ _ _; (first | (refine ro_prop (j := 0) (n.a ≠ 0) (fun R w' h => boolsA_in hhl hah (by first | exact h.2 | exact h.1.2)) (show 0 < 7 by decide) rfl ?_ ?_ <;> intro _) | refine ro_bool (j := 0) (fun R w' h => boolsA_in hml ham (by first | exact h.1.2 | exact h.2)) (show 0 < 7 by decide) ?_ | (refine ro_prop (j := 1) (n.b ≠ 0) (fun R w' h => boolsA_in hhl hah (by first | exact h.2 | exact h.1.2)) (show 1 < 7 by decide) rfl ?_ ?_ <;> intro _) | refine ro_bool (j := 1) (fun R w' h => boolsA_in hml ham (by first | exact h.1.2 | exact h.2)) (show 1 < 7 by decide) ?_ | (refine ro_prop (j := 2) ((n.shape.xs.length : Int) > 0) (fun R w' h => boolsA_in hhl hah (by first | exact h.2 | exact h.1.2)) (show 2 < 7 by decide) rfl ?_ ?_ <;> intro _) | refine ro_bool (j := 2) (fun R w' h => boolsA_in hml ham (by first | exact h.1.2 | exact h.2)) (show 2 < 7 by decide) ?_ | (refine ro_prop (j := 3) (n.lo ≠ 0 ∨ n.hi ≠ 0) (fun R w' h => boolsA_in hhl hah (by first | exact h.2 | exact h.1.2)) (show 3 < 7 by decide) rfl ?_ ?_ <;> intro _) | refine ro_bool (j := 3) (fun R w' h => boolsA_in hml ham (by first | exact h.1.2 | exact h.2)) (show 3 < 7 by decide) ?_ | (refine ro_prop (j := 4) (n.size ≠ 0) (fun R w' h => boolsA_in hhl hah (by first | exact h.2 | exact h.1.2)) (show 4 < 7 by decide) rfl ?_ ?_ <;> intro _) | refine ro_bool (j := 4) (fun R w' h => boolsA_in hml ham (by first | exact h.1.2 | exact h.2)) (show 4 < 7 by decide) ?_ | (refine ro_prop (j := 5) ((n.data.xs.length : Int) > 0) (fun R w' h => boolsA_in hhl hah (by first | exact h.2 | exact h.1.2)) (show 5 < 7 by decide) rfl ?_ ?_ <;> intro _) | refine ro_bool (j := 5) (fun R w' h => boolsA_in hml ham (by first | exact h.1.2 | exact h.2)) (show 5 < 7 by decide) ?_ | (refine ro_prop (j := 6) ((n.bias.xs.length : Int) > 0) (fun R w' h => boolsA_in hhl hah (by first | exact h.2 | exact h.1.2)) (show 6 < 7 by decide) rfl ?_ ?_ <;> intro _) | refine ro_bool (j := 6) (fun R w' h => boolsA_in hml ham (by first | exact h.1.2 | exact h.2)) (show 6 < 7 by decide) ?_ | refine ro_int (j := 0) (fun R w' h => hn.shape.at_ (hbase (by omega)) R w' (by first | exact h.1.1 | exact h.1)) (by omega) ?_)) | (show drawK _ _ _ _ _ _ _ _; refine draw_quiet tabOk mixed (by kernel_rfl) ?_) | (show Wp _ _ _ _ _ _ _; refine Wp.go tabOk rfl ?_) | (show @cmpK _ _ _; (first | refine cmpY ?_ | refine cmpN ?_ | (refine cmp_both ?_ ?_ <;> intro _))) | (show wrapK _ _ _; refine wrapA ?_) | (show leK _ _ _; refine leA ?_) | (show roomK _ _ _; refine roomA ?_) | (show ltK _ _ _; refine ltA ?_) | (show _ ∧ _; refine ⟨?_, ?_⟩) | (show keepK _ _ _ _ _; refine keepA ?_) | refine own_keep ?_ | refine ap_old ?_))
  all_goals (conv => whnf)
  all_goals refine ends_bool (B := ⟨w, []⟩) (S := ((baseA w).and ((boolsA m).past w.heap.size)).and ((boolsA h).past w.heap.size)) (fun _ _ h => h.1.1) rfl ?_
  all_goals rw [hfb]
  all_goals simp only [Bool.and_eq_true, Bool.and_eq_false_iff, decide_eq_true_eq, decide_eq_false_iff_not, reduceCtorEq, and_false, and_true, or_false, false_or]
  all_goals first | omega | (simp; omega)
set_option maxRecDepth 20000 in
set_option maxHeartbeats 8000000 in
theorem refForm_8 (w : World) (n : NodeV) (hn : n.ok w) (at_ : Int) (hk : n.kind = 8) :
    Calls Try.prog 67 #[.agg n.cells.toArray, .int .i64 at_] w fun e w' => e = .returned (.bool (formB n at_)) ∧ Ext w w' := by
  have hm : mayL n.kind = some [true, false, false, false, false, true, false] := by unfold mayL; rw [hk]; rfl
  obtain ⟨a, hbase⟩ := ints_base hn.shape
  have hfb : formB n at_ = formB n at_ := rfl
  conv at hfb => rhs; unfold formB
  repeat (first | rw [if_pos (by omega)] at hfb | rw [if_neg (by omega)] at hfb)
  rw [lacks_eq] at hfb
  simp only [aheadB] at hfb
  refine calls_of tab tabOk Try.func67 rfl rfl rfl [] (fun _ => ⟨none, 0⟩) [.agg [.c (.int .i64 n.kind), .c (.int .i64 n.a), .c (.int .i64 n.b), .c n.shape.val, .c (.int .i64 n.lo), .c (.int .i64 n.hi), .c (.int .i64 n.size), .c n.data.val, .c n.bias.val], .c (.int .i64 at_)] [] (baseA w) 0 rfl rfl (by show 2 ≤ _; decide) (abs_base w) ?_
  (repeat' ((conv => whnf) <;> first | (show callK _ 94 _ _ _ _ _; refine call_bools (f := 94) [true, false, false, false, false, true, false] 7 rfl Try.call94 (fun ρ w' hw => may_any w' n.kind [true, false, false, false, false, true, false] hm) (fun m am hml ham hmn => ?_)) | (show pureK _ _ _; (first | refine slice_nil_no (ti 116 rfl) rfl ham ?_)) | (show callK _ 95 _ _ _ _ _; refine call_bools (f := 95) (hasL n) 7 rfl Try.call95 (fun ρ w' hw => has_any w' n) (fun h ah hhl hah hhn => ?_)) | (show drawK _ _ _ _ _ _ _ _; refine draw_quiet tabOk mixed (by kernel_rfl) ?_) | (show Wp _ _ _ _ _ _ _; refine Wp.go tabOk rfl ?_) | (show @cmpK _ _ _; (first | refine cmpY ?_ | refine cmpN ?_ | (refine cmp_both ?_ ?_ <;> intro _))) | (show wrapK _ _ _; refine wrapA ?_) | (show leK _ _ _; refine leA ?_) | (show roomK _ _ _; refine roomA ?_) | (show ltK _ _ _; refine ltA ?_) | (show _ ∧ _; refine ⟨?_, ?_⟩) | (show keepK _ _ _ _ _; refine keepA ?_) | refine own_keep ?_ | refine ap_old ?_))
  refine Wp.rounds 8 ?_
  (repeat' ((conv => whnf) <;> first | (show pureK _ _ _; (first | refine slice_nil_no (ti 116 rfl) rfl ham ?_)) | (show callK _ 95 _ _ _ _ _; refine call_bools (f := 95) (hasL n) 7 rfl Try.call95 (fun ρ w' hw => has_any w' n) (fun h ah hhl hah hhn => ?_)) | (show callK _ 34 _ _ _ _ _; refine call_pure (f := 34) Try.call34 _ (fun ρ w' hw => refEntries_any w' n.shape.base n.shape.cap n.shape.xs (holds_of_abs hw fun R h => rows_base h.1.1 hn.shape.rows)) ?_) | (show callQ _ 34 _ _ _ _ _; refine callQ_of (f := 34) Try.call34 _ (fun ρ w' hw => refEntries_any w' n.shape.base n.shape.cap n.shape.xs (holds_of_abs hw fun R h => rows_base h.1.1 hn.shape.rows)) ?_) | (show idxK _ _ _ _ _; (first | refine idx_of ah 0 hah rfl (by omega) ?_ | refine idx_of am 0 ham rfl (by omega) ?_ | refine idx_of ah 1 hah rfl (by omega) ?_ | refine idx_of am 1 ham rfl (by omega) ?_ | refine idx_of ah 2 hah rfl (by omega) ?_ | refine idx_of am 2 ham rfl (by omega) ?_ | refine idx_of ah 3 hah rfl (by omega) ?_ | refine idx_of am 3 ham rfl (by omega) ?_ | refine idx_of ah 4 hah rfl (by omega) ?_ | refine idx_of am 4 ham rfl (by omega) ?_ | refine idx_of ah 5 hah rfl (by omega) ?_ | refine idx_of am 5 ham rfl (by omega) ?_ | refine idx_of ah 6 hah rfl (by omega) ?_ | refine idx_of am 6 ham rfl (by omega) ?_ | refine idx_of _ 0 (hbase (by omega)) rfl (by omega) ?_)) | (show roK _ _ _; (first | (refine ro_prop (j := 0) (n.a ≠ 0) (fun R w' h => boolsA_in hhl hah (by first | exact h.2 | exact h.1.2)) (show 0 < 7 by decide) rfl ?_ ?_ <;> intro _) | refine ro_bool (j := 0) (fun R w' h => boolsA_in hml ham (by first | exact h.1.2 | exact h.2)) (show 0 < 7 by decide) ?_ | (refine ro_prop (j := 1) (n.b ≠ 0) (fun R w' h => boolsA_in hhl hah (by first | exact h.2 | exact h.1.2)) (show 1 < 7 by decide) rfl ?_ ?_ <;> intro _) | refine ro_bool (j := 1) (fun R w' h => boolsA_in hml ham (by first | exact h.1.2 | exact h.2)) (show 1 < 7 by decide) ?_ | (refine ro_prop (j := 2) ((n.shape.xs.length : Int) > 0) (fun R w' h => boolsA_in hhl hah (by first | exact h.2 | exact h.1.2)) (show 2 < 7 by decide) rfl ?_ ?_ <;> intro _) | refine ro_bool (j := 2) (fun R w' h => boolsA_in hml ham (by first | exact h.1.2 | exact h.2)) (show 2 < 7 by decide) ?_ | (refine ro_prop (j := 3) (n.lo ≠ 0 ∨ n.hi ≠ 0) (fun R w' h => boolsA_in hhl hah (by first | exact h.2 | exact h.1.2)) (show 3 < 7 by decide) rfl ?_ ?_ <;> intro _) | refine ro_bool (j := 3) (fun R w' h => boolsA_in hml ham (by first | exact h.1.2 | exact h.2)) (show 3 < 7 by decide) ?_ | (refine ro_prop (j := 4) (n.size ≠ 0) (fun R w' h => boolsA_in hhl hah (by first | exact h.2 | exact h.1.2)) (show 4 < 7 by decide) rfl ?_ ?_ <;> intro _) | refine ro_bool (j := 4) (fun R w' h => boolsA_in hml ham (by first | exact h.1.2 | exact h.2)) (show 4 < 7 by decide) ?_ | (refine ro_prop (j := 5) ((n.data.xs.length : Int) > 0) (fun R w' h => boolsA_in hhl hah (by first | exact h.2 | exact h.1.2)) (show 5 < 7 by decide) rfl ?_ ?_ <;> intro _) | refine ro_bool (j := 5) (fun R w' h => boolsA_in hml ham (by first | exact h.1.2 | exact h.2)) (show 5 < 7 by decide) ?_ | (refine ro_prop (j := 6) ((n.bias.xs.length : Int) > 0) (fun R w' h => boolsA_in hhl hah (by first | exact h.2 | exact h.1.2)) (show 6 < 7 by decide) rfl ?_ ?_ <;> intro _) | refine ro_bool (j := 6) (fun R w' h => boolsA_in hml ham (by first | exact h.1.2 | exact h.2)) (show 6 < 7 by decide) ?_ | refine ro_int (j := 0) (fun R w' h => hn.shape.at_ (hbase (by omega)) R w' (by first | exact h.1.1 | exact h.1)) (by omega) ?_)) | (show drawK _ _ _ _ _ _ _ _; refine draw_quiet tabOk mixed (by kernel_rfl) ?_) | (show Wp _ _ _ _ _ _ _; refine Wp.go tabOk rfl ?_) | (show @cmpK _ _ _; (first | refine cmpY ?_ | refine cmpN ?_ | (refine cmp_both ?_ ?_ <;> intro _))) | (show wrapK _ _ _; refine wrapA ?_) | (show leK _ _ _; refine leA ?_) | (show roomK _ _ _; refine roomA ?_) | (show ltK _ _ _; refine ltA ?_) | (show _ ∧ _; refine ⟨?_, ?_⟩) | (show keepK _ _ _ _ _; refine keepA ?_) | refine own_keep ?_ | refine ap_old ?_))
  all_goals (conv => whnf)
  all_goals refine ends_bool (B := ⟨w, []⟩) (S := ((baseA w).and ((boolsA m).past w.heap.size)).and ((boolsA h).past w.heap.size)) (fun _ _ h => h.1.1) rfl ?_
  all_goals rw [hfb]
  all_goals simp only [Bool.and_eq_true, Bool.and_eq_false_iff, decide_eq_true_eq, decide_eq_false_iff_not, reduceCtorEq, and_false, and_true, or_false, false_or]
  all_goals first | omega | (simp; omega)
set_option maxRecDepth 20000 in
set_option maxHeartbeats 8000000 in
theorem refForm_9 (w : World) (n : NodeV) (hn : n.ok w) (at_ : Int) (hk : n.kind = 9) :
    Calls Try.prog 67 #[.agg n.cells.toArray, .int .i64 at_] w fun e w' => e = .returned (.bool (formB n at_)) ∧ Ext w w' := by
  have hm : mayL n.kind = some [true, false, true, false, false, false, false] := by unfold mayL; rw [hk]; rfl
  obtain ⟨a, hbase⟩ := ints_base hn.shape
  have hfb : formB n at_ = formB n at_ := rfl
  conv at hfb => rhs; unfold formB
  repeat (first | rw [if_pos (by omega)] at hfb | rw [if_neg (by omega)] at hfb)
  rw [lacks_eq] at hfb
  simp only [aheadB] at hfb
  refine calls_of tab tabOk Try.func67 rfl rfl rfl [] (fun _ => ⟨none, 0⟩) [.agg [.c (.int .i64 n.kind), .c (.int .i64 n.a), .c (.int .i64 n.b), .c n.shape.val, .c (.int .i64 n.lo), .c (.int .i64 n.hi), .c (.int .i64 n.size), .c n.data.val, .c n.bias.val], .c (.int .i64 at_)] [] (baseA w) 0 rfl rfl (by show 2 ≤ _; decide) (abs_base w) ?_
  (repeat' ((conv => whnf) <;> first | (show callK _ 94 _ _ _ _ _; refine call_bools (f := 94) [true, false, true, false, false, false, false] 7 rfl Try.call94 (fun ρ w' hw => may_any w' n.kind [true, false, true, false, false, false, false] hm) (fun m am hml ham hmn => ?_)) | (show pureK _ _ _; (first | refine slice_nil_no (ti 116 rfl) rfl ham ?_)) | (show callK _ 95 _ _ _ _ _; refine call_bools (f := 95) (hasL n) 7 rfl Try.call95 (fun ρ w' hw => has_any w' n) (fun h ah hhl hah hhn => ?_)) | (show drawK _ _ _ _ _ _ _ _; refine draw_quiet tabOk mixed (by kernel_rfl) ?_) | (show Wp _ _ _ _ _ _ _; refine Wp.go tabOk rfl ?_) | (show @cmpK _ _ _; (first | refine cmpY ?_ | refine cmpN ?_ | (refine cmp_both ?_ ?_ <;> intro _))) | (show wrapK _ _ _; refine wrapA ?_) | (show leK _ _ _; refine leA ?_) | (show roomK _ _ _; refine roomA ?_) | (show ltK _ _ _; refine ltA ?_) | (show _ ∧ _; refine ⟨?_, ?_⟩) | (show keepK _ _ _ _ _; refine keepA ?_) | refine own_keep ?_ | refine ap_old ?_))
  refine Wp.rounds 8 ?_
  (repeat' ((conv => whnf) <;> first | (show pureK _ _ _; (first | refine slice_nil_no (ti 116 rfl) rfl ham ?_)) | (show callK _ 95 _ _ _ _ _; refine call_bools (f := 95) (hasL n) 7 rfl Try.call95 (fun ρ w' hw => has_any w' n) (fun h ah hhl hah hhn => ?_)) | (show callK _ 34 _ _ _ _ _; refine call_pure (f := 34) Try.call34 _ (fun ρ w' hw => refEntries_any w' n.shape.base n.shape.cap n.shape.xs (holds_of_abs hw fun R h => rows_base h.1.1 hn.shape.rows)) ?_) | (show callQ _ 34 _ _ _ _ _; refine callQ_of (f := 34) Try.call34 _ (fun ρ w' hw => refEntries_any w' n.shape.base n.shape.cap n.shape.xs (holds_of_abs hw fun R h => rows_base h.1.1 hn.shape.rows)) ?_) | (show idxK _ _ _ _ _; (first | refine idx_of ah 0 hah rfl (by omega) ?_ | refine idx_of am 0 ham rfl (by omega) ?_ | refine idx_of ah 1 hah rfl (by omega) ?_ | refine idx_of am 1 ham rfl (by omega) ?_ | refine idx_of ah 2 hah rfl (by omega) ?_ | refine idx_of am 2 ham rfl (by omega) ?_ | refine idx_of ah 3 hah rfl (by omega) ?_ | refine idx_of am 3 ham rfl (by omega) ?_ | refine idx_of ah 4 hah rfl (by omega) ?_ | refine idx_of am 4 ham rfl (by omega) ?_ | refine idx_of ah 5 hah rfl (by omega) ?_ | refine idx_of am 5 ham rfl (by omega) ?_ | refine idx_of ah 6 hah rfl (by omega) ?_ | refine idx_of am 6 ham rfl (by omega) ?_ | refine idx_of _ 0 (hbase (by omega)) rfl (by omega) ?_)) | (show roK _ _ _; (first | (refine ro_prop (j := 0) (n.a ≠ 0) (fun R w' h => boolsA_in hhl hah (by first | exact h.2 | exact h.1.2)) (show 0 < 7 by decide) rfl ?_ ?_ <;> intro _) | refine ro_bool (j := 0) (fun R w' h => boolsA_in hml ham (by first | exact h.1.2 | exact h.2)) (show 0 < 7 by decide) ?_ | (refine ro_prop (j := 1) (n.b ≠ 0) (fun R w' h => boolsA_in hhl hah (by first | exact h.2 | exact h.1.2)) (show 1 < 7 by decide) rfl ?_ ?_ <;> intro _) | refine ro_bool (j := 1) (fun R w' h => boolsA_in hml ham (by first | exact h.1.2 | exact h.2)) (show 1 < 7 by decide) ?_ | (refine ro_prop (j := 2) ((n.shape.xs.length : Int) > 0) (fun R w' h => boolsA_in hhl hah (by first | exact h.2 | exact h.1.2)) (show 2 < 7 by decide) rfl ?_ ?_ <;> intro _) | refine ro_bool (j := 2) (fun R w' h => boolsA_in hml ham (by first | exact h.1.2 | exact h.2)) (show 2 < 7 by decide) ?_ | (refine ro_prop (j := 3) (n.lo ≠ 0 ∨ n.hi ≠ 0) (fun R w' h => boolsA_in hhl hah (by first | exact h.2 | exact h.1.2)) (show 3 < 7 by decide) rfl ?_ ?_ <;> intro _) | refine ro_bool (j := 3) (fun R w' h => boolsA_in hml ham (by first | exact h.1.2 | exact h.2)) (show 3 < 7 by decide) ?_ | (refine ro_prop (j := 4) (n.size ≠ 0) (fun R w' h => boolsA_in hhl hah (by first | exact h.2 | exact h.1.2)) (show 4 < 7 by decide) rfl ?_ ?_ <;> intro _) | refine ro_bool (j := 4) (fun R w' h => boolsA_in hml ham (by first | exact h.1.2 | exact h.2)) (show 4 < 7 by decide) ?_ | (refine ro_prop (j := 5) ((n.data.xs.length : Int) > 0) (fun R w' h => boolsA_in hhl hah (by first | exact h.2 | exact h.1.2)) (show 5 < 7 by decide) rfl ?_ ?_ <;> intro _) | refine ro_bool (j := 5) (fun R w' h => boolsA_in hml ham (by first | exact h.1.2 | exact h.2)) (show 5 < 7 by decide) ?_ | (refine ro_prop (j := 6) ((n.bias.xs.length : Int) > 0) (fun R w' h => boolsA_in hhl hah (by first | exact h.2 | exact h.1.2)) (show 6 < 7 by decide) rfl ?_ ?_ <;> intro _) | refine ro_bool (j := 6) (fun R w' h => boolsA_in hml ham (by first | exact h.1.2 | exact h.2)) (show 6 < 7 by decide) ?_ | refine ro_int (j := 0) (fun R w' h => hn.shape.at_ (hbase (by omega)) R w' (by first | exact h.1.1 | exact h.1)) (by omega) ?_)) | (show drawK _ _ _ _ _ _ _ _; refine draw_quiet tabOk mixed (by kernel_rfl) ?_) | (show Wp _ _ _ _ _ _ _; refine Wp.go tabOk rfl ?_) | (show @cmpK _ _ _; (first | refine cmpY ?_ | refine cmpN ?_ | (refine cmp_both ?_ ?_ <;> intro _))) | (show wrapK _ _ _; refine wrapA ?_) | (show leK _ _ _; refine leA ?_) | (show roomK _ _ _; refine roomA ?_) | (show ltK _ _ _; refine ltA ?_) | (show _ ∧ _; refine ⟨?_, ?_⟩) | (show keepK _ _ _ _ _; refine keepA ?_) | refine own_keep ?_ | refine ap_old ?_))
  all_goals (conv => whnf)
  all_goals refine ends_bool (B := ⟨w, []⟩) (S := ((baseA w).and ((boolsA m).past w.heap.size)).and ((boolsA h).past w.heap.size)) (fun _ _ h => h.1.1) rfl ?_
  all_goals rw [hfb]
  all_goals simp only [Bool.and_eq_true, Bool.and_eq_false_iff, decide_eq_true_eq, decide_eq_false_iff_not, reduceCtorEq, and_false, and_true, or_false, false_or]
  all_goals first | omega | (simp; omega)
end Go.Proofs.Ytdmkdogakbipbaa

/- GN -/
namespace Go.Proofs.Ytdmkdogakbipbaa
open Go.SX Go.RowKit
set_option maxRecDepth 20000 in
set_option maxHeartbeats 8000000 in
theorem refForm_4 (w : World) (n : NodeV) (hn : n.ok w) (at_ : Int) (hk : n.kind = 4) :
    Calls Try.prog 67 #[.agg n.cells.toArray, .int .i64 at_] w fun e w' => e = .returned (.bool (formB n at_)) ∧ Ext w w' := by
  have hm : mayL n.kind = some [true, false, true, false, false, true, true] := by unfold mayL; rw [hk]; rfl
  obtain ⟨a, hbase⟩ := ints_base hn.shape
  have hfb : formB n at_ = formB n at_ := rfl
  conv at hfb => rhs; unfold formB
  repeat (first | rw [if_pos (by omega)] at hfb | rw [if_neg (by omega)] at hfb)
  rw [lacks_eq] at hfb
  simp only [aheadB] at hfb
  have hK4 : n.shape.xs.length = 4 → kernelI n.shape.xs = kerLoop 1 n.shape.xs := fun h => by unfold kernelI; rw [if_pos h]
  have hK0 : n.shape.xs.length ≠ 4 → kernelI n.shape.xs = 0 := fun h => by unfold kernelI; rw [if_neg h]
  refine calls_of tab tabOk Try.func67 rfl rfl rfl [] (fun _ => ⟨none, 0⟩) [.agg [.c (.int .i64 n.kind), .c (.int .i64 n.a), .c (.int .i64 n.b), .c n.shape.val, .c (.int .i64 n.lo), .c (.int .i64 n.hi), .c (.int .i64 n.size), .c n.data.val, .c n.bias.val], .c (.int .i64 at_)] [] (baseA w) 0 rfl rfl (by show 2 ≤ _; decide) (abs_base w) ?_
  (repeat' ((conv => whnf) <;> first | (show callK _ 94 _ _ _ _ _; refine call_bools (f := 94) [true, false, true, false, false, true, true] 7 rfl Try.call94 (fun ρ w' hw => may_any w' n.kind [true, false, true, false, false, true, true] hm) (fun m am hml ham hmn => ?_)) | (show pureK _ _ _; (first | refine slice_nil_no (ti 116 rfl) rfl ham ?_)) | (show callK _ 95 _ _ _ _ _; refine call_bools (f := 95) (hasL n) 7 rfl Try.call95 (fun ρ w' hw => has_any w' n) (fun h ah hhl hah hhn => ?_)) | (show callK _ 34 _ _ _ _ _; refine call_pure (f := 34) Try.call34 _ (fun ρ w' hw => refEntries_any w' n.shape.base n.shape.cap n.shape.xs (holds_of_abs hw fun R h => rows_base h.1.1 hn.shape.rows)) ?_) | (show callQ _ 34 _ _ _ _ _; refine callQ_of (f := 34) Try.call34 _ (fun ρ w' hw => refEntries_any w' n.shape.base n.shape.cap n.shape.xs (holds_of_abs hw fun R h => rows_base h.1.1 hn.shape.rows)) ?_) | (show idxK _ _ _ _ _; (first | refine idx_of ah 0 hah rfl (by omega) ?_ | refine idx_of am 0 ham rfl (by omega) ?_ | refine idx_of ah 1 hah rfl (by omega) ?_ | refine idx_of am 1 ham rfl (by omega) ?_ | refine idx_of ah 2 hah rfl (by omega) ?_ | refine idx_of am 2 ham rfl (by omega) ?_ | refine idx_of ah 3 hah rfl (by omega) ?_ | refine idx_of am 3 ham rfl (by omega) ?_ | refine idx_of ah 4 hah rfl (by omega) ?_ | refine idx_of am 4 ham rfl (by omega) ?_ | refine idx_of ah 5 hah rfl (by omega) ?_ | refine idx_of am 5 ham rfl (by omega) ?_ | refine idx_of ah 6 hah rfl (by omega) ?_ | refine idx_of am 6 ham rfl (by omega) ?_ | refine idx_of _ 0 (hbase (by omega)) rfl (by omega) ?_)) | (show roK _ _ _; (first | (refine ro_prop (j := 0) (n.a ≠ 0) (fun R w' h => boolsA_in hhl hah (by first | exact h.2 | exact h.1.2)) (show 0 < 7 by decide) rfl ?_ ?_ <;> intro _) | refine ro_bool (j := 0) (fun R w' h => boolsA_in hml ham (by first | exact h.1.2 | exact h.2)) (show 0 < 7 by decide) ?_ | (refine ro_prop (j := 1) (n.b ≠ 0) (fun R w' h => boolsA_in hhl hah (by first | exact h.2 | exact h.1.2)) (show 1 < 7 by decide) rfl ?_ ?_ <;> intro _) | refine ro_bool (j := 1) (fun R w' h => boolsA_in hml ham (by first | exact h.1.2 | exact h.2)) (show 1 < 7 by decide) ?_ | (refine ro_prop (j := 2) ((n.shape.xs.length : Int) > 0) (fun R w' h => boolsA_in hhl hah (by first | exact h.2 | exact h.1.2)) (show 2 < 7 by decide) rfl ?_ ?_ <;> intro _) | refine ro_bool (j := 2) (fun R w' h => boolsA_in hml ham (by first | exact h.1.2 | exact h.2)) (show 2 < 7 by decide) ?_ | (refine ro_prop (j := 3) (n.lo ≠ 0 ∨ n.hi ≠ 0) (fun R w' h => boolsA_in hhl hah (by first | exact h.2 | exact h.1.2)) (show 3 < 7 by decide) rfl ?_ ?_ <;> intro _) | refine ro_bool (j := 3) (fun R w' h => boolsA_in hml ham (by first | exact h.1.2 | exact h.2)) (show 3 < 7 by decide) ?_ | (refine ro_prop (j := 4) (n.size ≠ 0) (fun R w' h => boolsA_in hhl hah (by first | exact h.2 | exact h.1.2)) (show 4 < 7 by decide) rfl ?_ ?_ <;> intro _) | refine ro_bool (j := 4) (fun R w' h => boolsA_in hml ham (by first | exact h.1.2 | exact h.2)) (show 4 < 7 by decide) ?_ | (refine ro_prop (j := 5) ((n.data.xs.length : Int) > 0) (fun R w' h => boolsA_in hhl hah (by first | exact h.2 | exact h.1.2)) (show 5 < 7 by decide) rfl ?_ ?_ <;> intro _) | refine ro_bool (j := 5) (fun R w' h => boolsA_in hml ham (by first | exact h.1.2 | exact h.2)) (show 5 < 7 by decide) ?_ | (refine ro_prop (j := 6) ((n.bias.xs.length : Int) > 0) (fun R w' h => boolsA_in hhl hah (by first | exact h.2 | exact h.1.2)) (show 6 < 7 by decide) rfl ?_ ?_ <;> intro _) | refine ro_bool (j := 6) (fun R w' h => boolsA_in hml ham (by first | exact h.1.2 | exact h.2)) (show 6 < 7 by decide) ?_ | refine ro_int (j := 0) (fun R w' h => hn.shape.at_ (hbase (by omega)) R w' (by first | exact h.1.1 | exact h.1)) (by omega) ?_)) | (show drawK _ _ _ _ _ _ _ _; refine draw_quiet tabOk mixed (by kernel_rfl) ?_) | (show Wp _ _ _ _ _ _ _; refine Wp.go tabOk rfl ?_) | (show @cmpK _ _ _; (first | refine cmpY ?_ | refine cmpN ?_ | (refine cmp_both ?_ ?_ <;> intro _))) | (show wrapK _ _ _; refine wrapA ?_) | (show leK _ _ _; refine leA ?_) | (show roomK _ _ _; refine roomA ?_) | (show ltK _ _ _; refine ltA ?_) | (show _ ∧ _; refine ⟨?_, ?_⟩) | (show keepK _ _ _ _ _; refine keepA ?_) | refine own_keep ?_ | refine ap_old ?_))
  refine Wp.rounds 8 ?_
  (repeat' ((conv => whnf) <;> first | (show callK _ 94 _ _ _ _ _; refine call_bools (f := 94) [true, false, true, false, false, true, true] 7 rfl Try.call94 (fun ρ w' hw => may_any w' n.kind [true, false, true, false, false, true, true] hm) (fun m am hml ham hmn => ?_)) | (show pureK _ _ _; (first | refine slice_nil_no (ti 116 rfl) rfl ham ?_)) | (show callK _ 95 _ _ _ _ _; refine call_bools (f := 95) (hasL n) 7 rfl Try.call95 (fun ρ w' hw => has_any w' n) (fun h ah hhl hah hhn => ?_)) | (show callK _ 34 _ _ _ _ _; refine call_pure (f := 34) Try.call34 _ (fun ρ w' hw => refEntries_any w' n.shape.base n.shape.cap n.shape.xs (holds_of_abs hw fun R h => rows_base h.1.1 hn.shape.rows)) ?_) | (show callQ _ 34 _ _ _ _ _; refine callQ_of (f := 34) Try.call34 _ (fun ρ w' hw => refEntries_any w' n.shape.base n.shape.cap n.shape.xs (holds_of_abs hw fun R h => rows_base h.1.1 hn.shape.rows)) ?_) | (show idxK _ _ _ _ _; (first | refine idx_of ah 0 hah rfl (by omega) ?_ | refine idx_of am 0 ham rfl (by omega) ?_ | refine idx_of ah 1 hah rfl (by omega) ?_ | refine idx_of am 1 ham rfl (by omega) ?_ | refine idx_of ah 2 hah rfl (by omega) ?_ | refine idx_of am 2 ham rfl (by omega) ?_ | refine idx_of ah 3 hah rfl (by omega) ?_ | refine idx_of am 3 ham rfl (by omega) ?_ | refine idx_of ah 4 hah rfl (by omega) ?_ | refine idx_of am 4 ham rfl (by omega) ?_ | refine idx_of ah 5 hah rfl (by omega) ?_ | refine idx_of am 5 ham rfl (by omega) ?_ | refine idx_of ah 6 hah rfl (by omega) ?_ | refine idx_of am 6 ham rfl (by omega) ?_ | refine idx_of _ 0 (hbase (by omega)) rfl (by omega) ?_)) | (show roK _ _ _; (first | (refine ro_prop (j := 0) (n.a ≠ 0) (fun R w' h => boolsA_in hhl hah (by first | exact h.2 | exact h.1.2)) (show 0 < 7 by decide) rfl ?_ ?_ <;> intro _) | refine ro_bool (j := 0) (fun R w' h => boolsA_in hml ham (by first | exact h.1.2 | exact h.2)) (show 0 < 7 by decide) ?_ | (refine ro_prop (j := 1) (n.b ≠ 0) (fun R w' h => boolsA_in hhl hah (by first | exact h.2 | exact h.1.2)) (show 1 < 7 by decide) rfl ?_ ?_ <;> intro _) | refine ro_bool (j := 1) (fun R w' h => boolsA_in hml ham (by first | exact h.1.2 | exact h.2)) (show 1 < 7 by decide) ?_ | (refine ro_prop (j := 2) ((n.shape.xs.length : Int) > 0) (fun R w' h => boolsA_in hhl hah (by first | exact h.2 | exact h.1.2)) (show 2 < 7 by decide) rfl ?_ ?_ <;> intro _) | refine ro_bool (j := 2) (fun R w' h => boolsA_in hml ham (by first | exact h.1.2 | exact h.2)) (show 2 < 7 by decide) ?_ | (refine ro_prop (j := 3) (n.lo ≠ 0 ∨ n.hi ≠ 0) (fun R w' h => boolsA_in hhl hah (by first | exact h.2 | exact h.1.2)) (show 3 < 7 by decide) rfl ?_ ?_ <;> intro _) | refine ro_bool (j := 3) (fun R w' h => boolsA_in hml ham (by first | exact h.1.2 | exact h.2)) (show 3 < 7 by decide) ?_ | (refine ro_prop (j := 4) (n.size ≠ 0) (fun R w' h => boolsA_in hhl hah (by first | exact h.2 | exact h.1.2)) (show 4 < 7 by decide) rfl ?_ ?_ <;> intro _) | refine ro_bool (j := 4) (fun R w' h => boolsA_in hml ham (by first | exact h.1.2 | exact h.2)) (show 4 < 7 by decide) ?_ | (refine ro_prop (j := 5) ((n.data.xs.length : Int) > 0) (fun R w' h => boolsA_in hhl hah (by first | exact h.2 | exact h.1.2)) (show 5 < 7 by decide) rfl ?_ ?_ <;> intro _) | refine ro_bool (j := 5) (fun R w' h => boolsA_in hml ham (by first | exact h.1.2 | exact h.2)) (show 5 < 7 by decide) ?_ | (refine ro_prop (j := 6) ((n.bias.xs.length : Int) > 0) (fun R w' h => boolsA_in hhl hah (by first | exact h.2 | exact h.1.2)) (show 6 < 7 by decide) rfl ?_ ?_ <;> intro _) | refine ro_bool (j := 6) (fun R w' h => boolsA_in hml ham (by first | exact h.1.2 | exact h.2)) (show 6 < 7 by decide) ?_ | refine ro_int (j := 0) (fun R w' h => hn.shape.at_ (hbase (by omega)) R w' (by first | exact h.1.1 | exact h.1)) (by omega) ?_)) | (show drawK _ _ _ _ _ _ _ _; refine draw_quiet tabOk mixed (by kernel_rfl) ?_) | (show Wp _ _ _ _ _ _ _; refine Wp.go tabOk rfl ?_) | (show @cmpK _ _ _; (first | refine cmpY ?_ | refine cmpN ?_ | (refine cmp_both ?_ ?_ <;> intro _))) | (show wrapK _ _ _; refine wrapA ?_) | (show leK _ _ _; refine leA ?_) | (show roomK _ _ _; refine roomA ?_) | (show ltK _ _ _; refine ltA ?_) | (show _ ∧ _; refine ⟨?_, ?_⟩) | (show keepK _ _ _ _ _; refine keepA ?_) | refine own_keep ?_ | refine ap_old ?_))
  all_goals first
    | (refine Wp.loop (σ := Nat × Int) 1 (fun ⟨k, p⟩ => [(106, .c n.shape.val), (107, .c (.int .i64 n.shape.xs.length)), (108, .c (.int .i64 k)), (8, .c (.int .i64 p)), (2, .lp 0 0 0 0)]) (fun _ => [(0, .box [.c (.int .i64 n.kind), .c (.int .i64 n.a), .c (.int .i64 n.b), .c n.shape.val, .c (.int .i64 n.lo), .c (.int .i64 n.hi), .c (.int .i64 n.size), .c n.data.val, .c n.bias.val] 38)]) (fun _ => ((baseA w).and ((boolsA m).past w.heap.size)).and ((boolsA h).past w.heap.size))
        (fun s => s.1 ≤ 4 ∧ 1 ≤ s.2 ∧ s.2 ≤ 64 ^ s.1 ∧ kerLoop 1 n.shape.xs = kerLoop s.2 (n.shape.xs.drop s.1)) (fun s => 4 - s.1) (0, 1) [] (Nat.le_refl _) (fun s => ⟨rfl, rfl⟩) ⟨by simp, by simp, by simp, rfl⟩ ⟨rfl, ⟨rfl, rfl, rfl, rfl, rfl, trivial⟩, ⟨List.mem_cons_self, trivial⟩, fun _ _ h => h⟩ ?_
       rintro ⟨k, p⟩ ⟨hk4, h1, h64, he⟩
       simp only at hk4 h1 h64 he
       by_cases hlt : k < n.shape.xs.length
       · rw [drop_at hlt] at he
         simp only [kerLoop] at he
         have hb : 1 ≤ n.shape.xs[k] → n.shape.xs[k] ≤ 64 → 1 ≤ p * n.shape.xs[k] ∧ p * n.shape.xs[k] ≤ 64 ^ (k + 1) ∧ p * n.shape.xs[k] ≤ 16777216 := fun g1 g2 => by
           have g3 : p * n.shape.xs[k] ≤ 64 ^ k * 64 := Int.mul_le_mul h64 g2 (by omega) (by omega)
           have g4 : p * 1 ≤ p * n.shape.xs[k] := Int.mul_le_mul_of_nonneg_left g1 (by omega)
           have g5 : (64 : Int) ^ k * 64 = 64 ^ (k + 1) := (Int.pow_succ 64 k).symm
           have g6 : (64 : Int) ^ (k + 1) ≤ 16777216 := by
             have : k = 0 ∨ k = 1 ∨ k = 2 ∨ k = 3 := by omega
             rcases this with rfl | rfl | rfl | rfl <;> decide
           omega
         have hbad : (n.shape.xs[k] < 1 ∨ n.shape.xs[k] > 64) → kernelI n.shape.xs = 0 := fun g => by rw [hK4 (by omega), he, if_pos g]
         (repeat' ((conv => whnf) <;> first | refine idx_of a k (hbase (by omega)) rfl hlt ?_ | (show roK _ _ _; refine ro_row0 (fun R w' h => hn.shape.at_ (hbase (by omega)) R w' h.1.1) _ _ (ints_get hlt) rfl ?_) | refine wrap_i64 (by have := hb (by omega) (by omega); omega) (by have := hb (by omega) (by omega); omega) ?_ | (show drawK _ _ _ _ _ _ _ _; refine draw_quiet tabOk mixed (by kernel_rfl) ?_) | (show Wp _ _ _ _ _ _ _; refine Wp.go tabOk rfl ?_) | (show @cmpK _ _ _; (first | refine cmpY ?_ | refine cmpN ?_ | (refine cmp_both ?_ ?_ <;> intro _))) | (show wrapK _ _ _; refine wrapA ?_) | (show leK _ _ _; refine leA ?_) | (show roomK _ _ _; refine roomA ?_) | (show ltK _ _ _; refine ltA ?_) | (show _ ∧ _; refine ⟨?_, ?_⟩) | (show keepK _ _ _ _ _; refine keepA ?_) | refine own_keep ?_ | refine ap_old ?_))
         · conv => whnf
           refine ends_bool (B := ⟨w, []⟩) (S := ((baseA w).and ((boolsA m).past w.heap.size)).and ((boolsA h).past w.heap.size)) (fun _ _ h => h.1.1) rfl ?_
           rw [hfb]
           simp only [Bool.and_eq_true, Bool.and_eq_false_iff, decide_eq_true_eq, decide_eq_false_iff_not, reduceCtorEq, and_false, and_true, or_false, false_or]
           omega
         · conv => whnf
           refine ends_bool (B := ⟨w, []⟩) (S := ((baseA w).and ((boolsA m).past w.heap.size)).and ((boolsA h).past w.heap.size)) (fun _ _ h => h.1.1) rfl ?_
           rw [hfb]
           simp only [Bool.and_eq_true, Bool.and_eq_false_iff, decide_eq_true_eq, decide_eq_false_iff_not, reduceCtorEq, and_false, and_true, or_false, false_or]
           omega
         · rw [if_neg (by omega)] at he
           have := hb (by omega) (by omega)
           exact ⟨(k + 1, p * n.shape.xs[k]), [], ⟨by simp only; omega, this.1, this.2.1, he⟩, by simp only; omega, rfl, ⟨rfl, rfl, rfl, rfl, rfl, trivial⟩, ⟨List.mem_cons_self, trivial⟩, fun _ _ h => h⟩
       · have hkl : n.shape.xs.drop k = [] := List.drop_of_length_le (by omega)
         rw [hkl] at he
         have hp : kernelI n.shape.xs = p := by rw [hK4 (by omega), he]; rfl
         (repeat' ((conv => whnf) <;> first | (show idxK _ _ _ _ _; (first | refine idx_of ah 0 hah rfl (by omega) ?_ | refine idx_of am 0 ham rfl (by omega) ?_ | refine idx_of ah 1 hah rfl (by omega) ?_ | refine idx_of am 1 ham rfl (by omega) ?_ | refine idx_of ah 2 hah rfl (by omega) ?_ | refine idx_of am 2 ham rfl (by omega) ?_ | refine idx_of ah 3 hah rfl (by omega) ?_ | refine idx_of am 3 ham rfl (by omega) ?_ | refine idx_of ah 4 hah rfl (by omega) ?_ | refine idx_of am 4 ham rfl (by omega) ?_ | refine idx_of ah 5 hah rfl (by omega) ?_ | refine idx_of am 5 ham rfl (by omega) ?_ | refine idx_of ah 6 hah rfl (by omega) ?_ | refine idx_of am 6 ham rfl (by omega) ?_ | refine idx_of _ 0 (hbase (by omega)) rfl (by omega) ?_)) | (show roK _ _ _; refine ro_int (j := 0) (fun R w' h => hn.shape.at_ (hbase (by omega)) R w' h.1.1) (by omega) ?_) | (show drawK _ _ _ _ _ _ _ _; refine draw_quiet tabOk mixed (by kernel_rfl) ?_) | (show Wp _ _ _ _ _ _ _; refine Wp.go tabOk rfl ?_) | (show @cmpK _ _ _; (first | refine cmpY ?_ | refine cmpN ?_ | (refine cmp_both ?_ ?_ <;> intro _))) | (show wrapK _ _ _; refine wrapA ?_) | (show leK _ _ _; refine leA ?_) | (show roomK _ _ _; refine roomA ?_) | (show ltK _ _ _; refine ltA ?_) | (show _ ∧ _; refine ⟨?_, ?_⟩) | (show keepK _ _ _ _ _; refine keepA ?_) | refine own_keep ?_ | refine ap_old ?_))
         all_goals (conv => whnf)
         all_goals refine ends_bool (B := ⟨w, []⟩) (S := ((baseA w).and ((boolsA m).past w.heap.size)).and ((boolsA h).past w.heap.size)) (fun _ _ h => h.1.1) rfl ?_
         all_goals rw [hfb]
         all_goals simp only [Bool.and_eq_true, Bool.and_eq_false_iff, decide_eq_true_eq, decide_eq_false_iff_not, reduceCtorEq, and_false, and_true, or_false, false_or]
         all_goals omega)
    | (conv => whnf
       refine ends_bool (B := ⟨w, []⟩) (S := ((baseA w).and ((boolsA m).past w.heap.size)).and ((boolsA h).past w.heap.size)) (fun _ _ h => h.1.1) rfl ?_
       rw [hfb]
       simp only [Bool.and_eq_true, Bool.and_eq_false_iff, decide_eq_true_eq, decide_eq_false_iff_not, reduceCtorEq, and_false, and_true, or_false, false_or]
       first | omega | (simp; omega))
theorem refForm_none (w : World) (n : NodeV) (at_ : Int) (hm : mayL n.kind = none) :
    Calls Try.prog 67 #[.agg n.cells.toArray, .int .i64 at_] w fun e w' => e = .returned (.bool (formB n at_)) ∧ Ext w w' := by
  have hfb : formB n at_ = false := by
    unfold mayL at hm
    unfold formB
    have h1 : n.kind ≠ 1 := fun h => by rw [if_pos h] at hm; cases hm
    rw [if_neg h1] at hm
    have h2 : n.kind ≠ 2 := fun h => by rw [if_pos h] at hm; cases hm
    rw [if_neg h2] at hm
    have h3 : n.kind ≠ 3 := fun h => by rw [if_pos h] at hm; cases hm
    rw [if_neg h3] at hm
    have h4 : n.kind ≠ 4 := fun h => by rw [if_pos h] at hm; cases hm
    rw [if_neg h4] at hm
    have h5 : n.kind ≠ 5 := fun h => by rw [if_pos h] at hm; cases hm
    rw [if_neg h5] at hm
    have h6 : n.kind ≠ 6 := fun h => by rw [if_pos h] at hm; cases hm
    rw [if_neg h6] at hm
    have h7 : n.kind ≠ 7 := fun h => by rw [if_pos h] at hm; cases hm
    rw [if_neg h7] at hm
    have h8 : n.kind ≠ 8 := fun h => by rw [if_pos h] at hm; cases hm
    rw [if_neg h8] at hm
    have h9 : n.kind ≠ 9 := fun h => by rw [if_pos h] at hm; cases hm
    rw [if_neg h1, if_neg h2, if_neg h3, if_neg h4, if_neg h5, if_neg h6, if_neg h7, if_neg h8, if_neg h9]
  refine calls_of tab tabOk Try.func67 rfl rfl rfl [] (fun _ => ⟨none, 0⟩) [.agg [.c (.int .i64 n.kind), .c (.int .i64 n.a), .c (.int .i64 n.b), .c n.shape.val, .c (.int .i64 n.lo), .c (.int .i64 n.hi), .c (.int .i64 n.size), .c n.data.val, .c n.bias.val], .c (.int .i64 at_)] [] (baseA w) 0 rfl rfl (by show 2 ≤ _; decide) (abs_base w) ?_
  (repeat' ((conv => whnf) <;> first | (show callK _ 94 _ _ _ _ _; refine call_pure (f := 94) Try.call94 _ (fun ρ w' hw => may_none w' n.kind hm) ?_) | (show pureK _ _ _; refine slice_nil_yes (ti 116 rfl) rfl ?_) | (show drawK _ _ _ _ _ _ _ _; refine draw_quiet tabOk mixed (by kernel_rfl) ?_) | (show Wp _ _ _ _ _ _ _; refine Wp.go tabOk rfl ?_) | (show @cmpK _ _ _; (first | refine cmpY ?_ | refine cmpN ?_ | (refine cmp_both ?_ ?_ <;> intro _))) | (show wrapK _ _ _; refine wrapA ?_) | (show leK _ _ _; refine leA ?_) | (show roomK _ _ _; refine roomA ?_) | (show ltK _ _ _; refine ltA ?_) | (show _ ∧ _; refine ⟨?_, ?_⟩) | (show keepK _ _ _ _ _; refine keepA ?_) | refine own_keep ?_ | refine ap_old ?_))
  exact ends_bool (fun _ _ h => h) rfl hfb
theorem refForm_any (w : World) (n : NodeV) (hn : n.ok w) (at_ : Int) :
    Calls Try.prog 67 #[.agg n.cells.toArray, .int .i64 at_] w fun e w' => e = .returned (.bool (formB n at_)) ∧ Ext w w' := by
  by_cases h1 : n.kind = 1
  · exact refForm_1 w n hn at_ h1
  by_cases h2 : n.kind = 2
  · exact refForm_2 w n hn at_ h2
  by_cases h3 : n.kind = 3
  · exact refForm_3 w n hn at_ h3
  by_cases h4 : n.kind = 4
  · exact refForm_4 w n hn at_ h4
  by_cases h5 : n.kind = 5
  · exact refForm_5 w n hn at_ h5
  by_cases h6 : n.kind = 6
  · exact refForm_6 w n hn at_ h6
  by_cases h7 : n.kind = 7
  · exact refForm_7 w n hn at_ h7
  by_cases h8 : n.kind = 8
  · exact refForm_8 w n hn at_ h8
  by_cases h9 : n.kind = 9
  · exact refForm_9 w n hn at_ h9
  · exact refForm_none w n at_ (by unfold mayL; simp only [h1, h2, h3, h4, h5, h6, h7, h8, h9, if_false])
end Go.Proofs.Ytdmkdogakbipbaa

/- GO -/
namespace Go.Proofs.Ytdmkdogakbipbaa
abbrev dtGO0 : Go.SX.DT := (.take 0 (.take 1 (.take 2 (.take 3 (.take 4 (.take 5 (.take 6 (.take 7 (.take 8 (.take 9 (.take 10 (.take 11 (.take 12 (.take 13 (.take 14 (.take 15 (.take 16 (.take 17 (.take 18 (.take 19 (.take 20 (.take 21 (.one 22 (.take 23 (.done)))))))))))))))))))))))))
abbrev dtGO1 : Go.SX.DT := (.take 0 (.take 1 (.take 2 (.take 3 (.take 4 (.take 5 (.take 6 (.take 7 (.take 8 (.take 9 (.take 10 (.take 11 (.take 12 (.take 13 (.take 14 (.one 15 (.take 16 (.done))))))))))))))))))
open Go.SX Go.RowKit
def RShapePost (w : World) (n : NodeV) (l : List IntsV) (r : Option (List Int)) (e : Ending) (w' : World) : Prop :=
  ∃ v : Value, e = .returned v ∧ Ext w w' ∧ (r = none → v = .slice none 0 0) ∧
    ∀ xs, r = some xs → ∃ u : IntsV, v = u.val ∧ u.xs = xs ∧ (u = n.shape ∨ u ∈ l ∨ (u.sane ∧ (intsA u).holds (fun b => w.heap.size ≤ b ∧ b < w'.heap.size) w'))
section
variable {B : Base} {H : Heap} {S : Asn} {nx : Nat} {w : World} {n : NodeV} {l : List IntsV} {r : Option (List Int)}
theorem rends_old (u : IntsV) (hb : ∀ R w', S.holds R w' → (baseA B.w0).holds R w') (hw0 : B.w0 = w) (hu : u = n.shape ∨ u ∈ l) (hr : r = some u.xs) : finK B (.c u.val) H S nx (RShapePost w n l r) := by
  subst hw0 hr
  exact fin_of fun ρ w' hw => ⟨_, rfl, ext_of_abs hw hb, (fun h => by cases h), fun xs h => ⟨u, rfl, by simpa using h, hu.elim .inl fun h => .inr (.inl h)⟩⟩
theorem rends_no (hb : ∀ R w', S.holds R w' → (baseA B.w0).holds R w') (hw0 : B.w0 = w) (hr : r = none) : finK B (.c (.slice none 0 0)) H S nx (RShapePost w n l r) := by
  subst hw0 hr
  exact fin_of fun ρ w' hw => ⟨_, rfl, ext_of_abs hw hb, fun _ => rfl, fun xs h => by cases h⟩
theorem rends_new {i m : Nat} {xs : List Int} (hb : ∀ R w', S.holds R w' → (baseA B.w0).holds R w') (hw0 : B.w0 = w) (he : (i, Ent.rows (ints xs) 1 3) ∈ H) (hm : m = xs.length) (hf : ∀ x ∈ xs, -9223372036854775808 ≤ x ∧ x ≤ 9223372036854775807) (hl : xs.length ≤ 1000000) (hr : r = some xs) :
    finK B (.os i m) H S nx (RShapePost w n l r) := by
  subst hw0 hr hm
  refine fin_of fun ρ w' hw => ?_
  have hn := new_of_abs hw hb he
  rw [ints_length] at hn
  obtain ⟨u, h1, h2, h3, h4⟩ := newInts hn hf hl
  exact ⟨_, rfl, ext_of_abs hw hb, (fun h => by cases h), fun ys h => ⟨u, h1, by rw [h2]; simpa using h, .inr (.inr ⟨h3, h4⟩)⟩⟩
end
theorem refEntries_ints (w : World) (s : IntsV) (h : s.ok w) : Calls Try.prog 34 #[s.val] w fun e w' => e = .returned (.int .i64 (entries s.xs)) ∧ Ext w w' := refEntries_any w s.base s.cap s.xs h.rows
theorem mayL_own {n : NodeV} (h : n.kind = 1 ∨ n.kind = 2) : ∃ r, mayL n.kind = some (false :: r) ∧ (false :: r).length = 7 := by
  rcases h with h | h <;> rw [h] <;> unfold mayL <;> exact ⟨_, rfl, rfl⟩
theorem mayL_ahead {n : NodeV} {at_ : Nat} (hf : Formed n at_) (h : ¬ (n.kind = 1 ∨ n.kind = 2)) : ∃ r, mayL n.kind = some (true :: r) ∧ (true :: r).length = 7 := by
  have h2 := hf.kind
  have : n.kind = 3 ∨ n.kind = 4 ∨ n.kind = 5 ∨ n.kind = 6 ∨ n.kind = 7 ∨ n.kind = 8 ∨ n.kind = 9 := by omega
  rcases this with h | h | h | h | h | h | h <;> rw [h] <;> unfold mayL <;> exact ⟨_, rfl, rfl⟩
set_option maxRecDepth 20000 in
set_option maxHeartbeats 8000000 in
theorem refShape_own (w : World) (n : NodeV) (hn : n.ok w) (sv : ShapesV) (h12 : n.kind = 1 ∨ n.kind = 2) :
    Calls Try.prog 68 #[.agg n.cells.toArray, sv.val] w (RShapePost w n sv.l (shapeO n (sv.l.map (·.xs)))) := by
  have hsp : shapeO n (sv.l.map (·.xs)) = some n.shape.xs := by unfold shapeO; rw [if_pos h12]
  obtain ⟨r, hm, hr⟩ := mayL_own h12
  refine calls_of tab tabOk Try.func68 rfl rfl rfl [] (fun _ => ⟨none, 0⟩) [.agg [.c (.int .i64 n.kind), .c (.int .i64 n.a), .c (.int .i64 n.b), .c n.shape.val, .c (.int .i64 n.lo), .c (.int .i64 n.hi), .c (.int .i64 n.size), .c n.data.val, .c n.bias.val], .c sv.val] [] (baseA w) 0 rfl rfl (by show 2 ≤ _; decide) (abs_base w) ?_
  (repeat' ((conv => whnf) <;> first | (show callK _ 94 _ _ _ _ _; refine call_bools (f := 94) (false :: r) 7 hr Try.call94 (fun ρ w' hw => may_any w' n.kind _ hm) (fun m am hml ham hmn => ?_)) | (show idxK _ _ _ _ _; refine idx_of am 0 ham rfl (by omega) ?_) | (show roK _ _ _; (refine ro_bool (j := 0) (fun R w' h => boolsA_in hml ham h.2) (by rw [hr]; decide) ?_)) | (show drawK _ 15 _ _ _ _ _ _; refine draw_tree tabOk mixed [] _ dtGO0 (by kernel_rfl) (by kernel_rfl) (by kernel_rfl) (List.Sublist.refl _) ?_) | (show drawK _ 22 _ _ _ _ _ _; refine draw_tree tabOk mixed [] _ dtGO1 (by kernel_rfl) (by kernel_rfl) (by kernel_rfl) (List.Sublist.refl _) ?_) | (show drawK _ _ _ _ _ _ _ _; refine draw_quiet tabOk mixed (by kernel_rfl) ?_) | (show Wp _ _ _ _ _ _ _; refine Wp.go tabOk rfl ?_) | (show @cmpK _ _ _; (first | refine cmpY ?_ | refine cmpN ?_ | (refine cmp_both ?_ ?_ <;> intro _))) | (show wrapK _ _ _; refine wrapA ?_) | (show leK _ _ _; refine leA ?_) | (show roomK _ _ _; refine roomA ?_) | (show ltK _ _ _; refine ltA ?_) | (show _ ∧ _; refine ⟨?_, ?_⟩) | (show keepK _ _ _ _ _; refine keepA ?_) | refine own_keep ?_ | refine ap_old ?_))
  all_goals (conv => whnf)
  all_goals exact rends_old (B := ⟨w, []⟩) (S := (baseA w).and ((boolsA m).past w.heap.size)) n.shape (fun _ _ h => h.1) rfl (.inl rfl) hsp
set_option maxRecDepth 20000 in
set_option maxHeartbeats 8000000 in
theorem refShape_ahead (w : World) (n : NodeV) (hn : n.ok w) (sv : ShapesV) (hs : sv.ok w) (hf : Formed n sv.l.length) (hg : ∀ s ∈ sv.l, 0 < entries s.xs) (h12 : ¬ (n.kind = 1 ∨ n.kind = 2)) :
    Calls Try.prog 68 #[.agg n.cells.toArray, sv.val] w (RShapePost w n sv.l (shapeO n (sv.l.map (·.xs)))) := by
  obtain ⟨r, hm, hr⟩ := mayL_ahead hf h12
  obtain ⟨ha0, ha1⟩ := hf.a (by omega) (by omega)
  obtain ⟨i, hia⟩ := Int.eq_ofNat_of_zero_le ha0
  have hil : i < sv.l.length := by omega
  obtain ⟨s, hi⟩ : ∃ s, sv.l[i]? = some s := ⟨_, List.getElem?_eq_getElem hil⟩
  have hA : (sv.l.map (·.xs)).getD n.a.toNat [] = s.xs := by rw [hia]; simp [List.getD, hi]
  have hg := hg s (List.mem_of_getElem? hi)
  have hso := hs.each s (List.mem_of_getElem? hi)
  have hri : (shRows sv.l)[i]? = some [s.val] := by rw [shRows_get hil, (List.getElem?_eq_some_iff.1 hi).2]
  obtain ⟨b, hb⟩ : ∃ a, sv.base = some a := base_some (j := i) hs.rows (by rw [shRows_length]; exact hil)
  obtain ⟨hl1, hl3, hd⟩ := entries_dims hg
  obtain ⟨a, hsb⟩ := hso.base (by omega)
  have hd0 : 0 < s.xs.length → 1 ≤ s.xs.getD 0 0 ∧ s.xs.getD 0 0 ≤ 64 := fun h => hd _ (getD_mem h)
  have hd1 : 1 < s.xs.length → 1 ≤ s.xs.getD 1 0 ∧ s.xs.getD 1 0 ≤ 64 := fun h => hd _ (getD_mem h)
  have hd2 : 2 < s.xs.length → 1 ≤ s.xs.getD 2 0 ∧ s.xs.getD 2 0 ≤ 64 := fun h => hd _ (getD_mem h)
  have hz := hf.pool
  have hq1 : n.kind = 5 → 1 < s.xs.length → 0 ≤ s.xs.getD 1 0 / n.size ∧ s.xs.getD 1 0 / n.size ≤ 64 := fun g h => by have := hz g; exact ⟨Int.ediv_nonneg (by omega) (by omega), Int.le_trans (Int.ediv_le_self _ (by omega)) (by omega)⟩
  have hq2 : n.kind = 5 → 2 < s.xs.length → 0 ≤ s.xs.getD 2 0 / n.size ∧ s.xs.getD 2 0 / n.size ≤ 64 := fun g h => by have := hz g; exact ⟨Int.ediv_nonneg (by omega) (by omega), Int.le_trans (Int.ediv_le_self _ (by omega)) (by omega)⟩
  have hbi := hf.bias
  have hmu : n.kind = 3 → 0 ≤ (n.bias.xs.length : Int) * entries s.xs ∧ (n.bias.xs.length : Int) * entries s.xs ≤ 4096 := fun g => by
    have h1 := entries_bd s.xs
    have h2 : (n.bias.xs.length : Int) * entries s.xs ≤ 64 * 64 := Int.mul_le_mul (by have := hbi g; omega) h1.2 h1.1 (by omega)
    have h3 : 0 ≤ (n.bias.xs.length : Int) * entries s.xs := Int.mul_nonneg (by omega) h1.1
    omega
  have hkd : n.kind = 4 → n.shape.xs.length = 4 ∧ (1 ≤ n.shape.xs.getD 0 0 ∧ n.shape.xs.getD 0 0 ≤ 64) ∧ (1 ≤ n.shape.xs.getD 1 0 ∧ n.shape.xs.getD 1 0 ≤ 64) ∧ (1 ≤ n.shape.xs.getD 2 0 ∧ n.shape.xs.getD 2 0 ≤ 64) ∧ (1 ≤ n.shape.xs.getD 3 0 ∧ n.shape.xs.getD 3 0 ≤ 64) := fun g => by
    obtain ⟨hk4, hkd⟩ := kernel_dims (hf.kern g)
    exact ⟨hk4, hkd _ (getD_mem (by omega)), hkd _ (getD_mem (by omega)), hkd _ (getD_mem (by omega)), hkd _ (getD_mem (by omega))⟩
  obtain ⟨c, hc⟩ := ints_base hn.shape
  have hE := entries_bd [n.shape.xs.getD 0 0, s.xs.getD 1 0 - n.shape.xs.getD 2 0 + 1, s.xs.getD 2 0 - n.shape.xs.getD 3 0 + 1]
  by_cases h6 : n.kind = 6
  · obtain ⟨hb0, hb1⟩ := hf.b h6
    obtain ⟨j, hjb⟩ := Int.eq_ofNat_of_zero_le hb0
    have hjl : j < sv.l.length := by omega
    obtain ⟨t, hj⟩ : ∃ t, sv.l[j]? = some t := ⟨_, List.getElem?_eq_getElem hjl⟩
    have hB : (sv.l.map (·.xs)).getD n.b.toNat [] = t.xs := by rw [hjb]; simp [List.getD, hj]
    have hto := hs.each t (List.mem_of_getElem? hj)
    have hrj : (shRows sv.l)[j]? = some [t.val] := by rw [shRows_get hjl, (List.getElem?_eq_some_iff.1 hj).2]
    have hsp : shapeO n (sv.l.map (·.xs)) = if s.xs = t.xs then some s.xs else none := by
      unfold shapeO; simp only [hA, hB]; repeat (first | rw [if_pos (by omega)] | rw [if_neg (by omega)])
    refine calls_of tab tabOk Try.func68 rfl rfl rfl [] (fun _ => ⟨none, 0⟩) [.agg [.c (.int .i64 n.kind), .c (.int .i64 n.a), .c (.int .i64 n.b), .c n.shape.val, .c (.int .i64 n.lo), .c (.int .i64 n.hi), .c (.int .i64 n.size), .c n.data.val, .c n.bias.val], .c sv.val] [] (baseA w) 0 rfl rfl (by show 2 ≤ _; decide) (abs_base w) ?_
    (repeat' ((conv => whnf) <;> first | (show callK _ 94 _ _ _ _ _; refine call_bools (f := 94) (true :: r) 7 hr Try.call94 (fun ρ w' hw => may_any w' n.kind _ hm) (fun m am hml ham hmn => ?_)) | (show idxK _ _ _ _ _; (first | refine idx_of am 0 ham rfl (by omega) ?_ | refine idx_of b i hb hia hil ?_ | refine idx_of b j hb hjb hjl ?_)) | (show roK _ _ _; (first | refine ro_bool (j := 0) (fun R w' h => boolsA_in hml ham h.2) (by rw [hr]; decide) ?_ | refine ro_row0 (fun R w' h => by rw [← hb]; exact rows_base h.1 hs.rows) _ _ hri rfl ?_ | refine ro_row0 (fun R w' h => by rw [← hb]; exact rows_base h.1 hs.rows) _ _ hrj rfl ?_)) | (show callK _ 26 _ _ _ _ _; ((refine call_bool (f := 26) Try.call26 _ (fun ρ w' hw => same_any w' s t (holds_of_abs hw fun R h => hso.later h.1) (holds_of_abs hw fun R h => hto.later h.1)) ?_ ?_ <;> intro he))) | (show drawK _ 15 _ _ _ _ _ _; refine draw_tree tabOk mixed [] _ dtGO0 (by kernel_rfl) (by kernel_rfl) (by kernel_rfl) (List.Sublist.refl _) ?_) | (show drawK _ 22 _ _ _ _ _ _; refine draw_tree tabOk mixed [] _ dtGO1 (by kernel_rfl) (by kernel_rfl) (by kernel_rfl) (List.Sublist.refl _) ?_) | (show drawK _ _ _ _ _ _ _ _; refine draw_quiet tabOk mixed (by kernel_rfl) ?_) | (show Wp _ _ _ _ _ _ _; refine Wp.go tabOk rfl ?_) | (show @cmpK _ _ _; (first | refine cmpY ?_ | refine cmpN ?_ | (refine cmp_both ?_ ?_ <;> intro _))) | (show wrapK _ _ _; refine wrapA ?_) | (show leK _ _ _; refine leA ?_) | (show roomK _ _ _; refine roomA ?_) | (show ltK _ _ _; refine ltA ?_) | (show _ ∧ _; refine ⟨?_, ?_⟩) | (show keepK _ _ _ _ _; refine keepA ?_) | refine own_keep ?_ | refine ap_old ?_))
    all_goals (conv => whnf)
    · exact rends_old (B := ⟨w, []⟩) (S := (baseA w).and ((boolsA m).past w.heap.size)) s (fun _ _ h => h.1) rfl (.inr (List.mem_of_getElem? hi)) (hsp.trans (if_pos (of_decide_eq_true he)))
    · exact rends_no (B := ⟨w, []⟩) (S := (baseA w).and ((boolsA m).past w.heap.size)) (fun _ _ h => h.1) rfl (hsp.trans (if_neg (of_decide_eq_false he)))
  · refine calls_of tab tabOk Try.func68 rfl rfl rfl [] (fun _ => ⟨none, 0⟩) [.agg [.c (.int .i64 n.kind), .c (.int .i64 n.a), .c (.int .i64 n.b), .c n.shape.val, .c (.int .i64 n.lo), .c (.int .i64 n.hi), .c (.int .i64 n.size), .c n.data.val, .c n.bias.val], .c sv.val] [] (baseA w) 0 rfl rfl (by show 2 ≤ _; decide) (abs_base w) ?_
    (repeat' ((conv => whnf) <;> first | (show callK _ 94 _ _ _ _ _; refine call_bools (f := 94) (true :: r) 7 hr Try.call94 (fun ρ w' hw => may_any w' n.kind _ hm) (fun m am hml ham hmn => ?_)) | (show idxK _ _ _ _ _; (first | refine idx_of am 0 ham rfl (by omega) ?_ | refine idx_of b i hb hia hil ?_)) | (show roK _ _ _; (first | refine ro_bool (j := 0) (fun R w' h => boolsA_in hml ham h.2) (by rw [hr]; decide) ?_ | refine ro_row0 (fun R w' h => by rw [← hb]; exact rows_base h.1 hs.rows) _ _ hri rfl ?_)) | (show idxK _ _ _ _ _; refine idx_of _ 0 hsb rfl (by omega) ?_) | (show roK _ _ _; refine ro_int (fun R w' h => hso.at_ hsb R w' h.1) (j := 0) (by omega) ?_) | (show idxK _ _ _ _ _; refine idx_of _ 1 hsb rfl (by omega) ?_) | (show roK _ _ _; refine ro_int (fun R w' h => hso.at_ hsb R w' h.1) (j := 1) (by omega) ?_) | (show idxK _ _ _ _ _; refine idx_of _ 2 hsb rfl (by omega) ?_) | (show roK _ _ _; refine ro_int (fun R w' h => hso.at_ hsb R w' h.1) (j := 2) (by omega) ?_) | (show idxK _ _ _ _ _; refine idx_of _ 0 (hc (by omega)) rfl (by omega) ?_) | (show roK _ _ _; refine ro_int (fun R w' h => hn.shape.at_ (hc (by omega)) R w' h.1) (j := 0) (by omega) ?_) | (show idxK _ _ _ _ _; refine idx_of _ 1 (hc (by omega)) rfl (by omega) ?_) | (show roK _ _ _; refine ro_int (fun R w' h => hn.shape.at_ (hc (by omega)) R w' h.1) (j := 1) (by omega) ?_) | (show idxK _ _ _ _ _; refine idx_of _ 2 (hc (by omega)) rfl (by omega) ?_) | (show roK _ _ _; refine ro_int (fun R w' h => hn.shape.at_ (hc (by omega)) R w' h.1) (j := 2) (by omega) ?_) | (show idxK _ _ _ _ _; refine idx_of _ 3 (hc (by omega)) rfl (by omega) ?_) | (show roK _ _ _; refine ro_int (fun R w' h => hn.shape.at_ (hc (by omega)) R w' h.1) (j := 3) (by omega) ?_) | (show callQ _ 34 _ _ _ _ _; refine callQ_of (f := 34) Try.call34 _ (fun ρ w' hw => refEntries_ints w' s (holds_of_abs hw fun R h => hso.later h.1)) ?_) | (show callK _ 34 [.c s.val] _ _ _ _; refine call_pure (f := 34) Try.call34 _ (fun ρ w' hw => refEntries_ints w' s (holds_of_abs hw fun R h => hso.later h.1)) ?_) | (show callK _ 34 [.c n.shape.val] _ _ _ _; refine call_pure (f := 34) Try.call34 _ (fun ρ w' hw => refEntries_ints w' n.shape (holds_of_abs hw fun R h => hn.shape.later h.1)) ?_) | (show callK _ 34 [.os 1 3] _ _ _ _; refine call_pure (f := 34) Try.call34 _ (fun ρ w' hw => refEntries_any w' (ρ 1).base (ρ 1).cap [n.shape.xs.getD 0 0, s.xs.getD 1 0 - n.shape.xs.getD 2 0 + 1, s.xs.getD 2 0 - n.shape.xs.getD 3 0 + 1] (rows_of_abs hw List.mem_cons_self)) ?_) | (show remK _ _ _; refine rem_pos (by omega) (by omega) ?_) | (show divK _ _ _ _; refine div_pos rfl (by omega) (by omega) (by omega) ?_) | (show drawK _ 15 _ _ _ _ _ _; refine draw_tree tabOk mixed [] _ dtGO0 (by kernel_rfl) (by kernel_rfl) (by kernel_rfl) (List.Sublist.refl _) ?_) | (show drawK _ 22 _ _ _ _ _ _; refine draw_tree tabOk mixed [] _ dtGO1 (by kernel_rfl) (by kernel_rfl) (by kernel_rfl) (List.Sublist.refl _) ?_) | (show drawK _ _ _ _ _ _ _ _; refine draw_quiet tabOk mixed (by kernel_rfl) ?_) | (show Wp _ _ _ _ _ _ _; refine Wp.go tabOk rfl ?_) | (show @cmpK _ _ _; (first | refine cmpY ?_ | refine cmpN ?_ | (refine cmp_both ?_ ?_ <;> intro _))) | (show wrapK _ _ _; refine wrapA ?_) | (show leK _ _ _; refine leA ?_) | (show roomK _ _ _; refine roomA ?_) | (show ltK _ _ _; refine ltA ?_) | (show _ ∧ _; refine ⟨?_, ?_⟩) | (show keepK _ _ _ _ _; refine keepA ?_) | refine own_keep ?_ | refine ap_old ?_))
    all_goals (conv => whnf)
    all_goals first
      | exact rends_no (B := ⟨w, []⟩) (S := (baseA w).and ((boolsA m).past w.heap.size)) (fun _ _ h => h.1) rfl (by unfold shapeO; simp only [hA]; (repeat (first | rw [if_pos (by omega)] | rw [if_neg (by omega)])))
      | exact rends_old (B := ⟨w, []⟩) (S := (baseA w).and ((boolsA m).past w.heap.size)) s (fun _ _ h => h.1) rfl (.inr (List.mem_of_getElem? hi)) (by unfold shapeO; simp only [hA]; (repeat (first | rw [if_pos (by omega)] | rw [if_neg (by omega)])))
      | exact rends_old (B := ⟨w, []⟩) (S := (baseA w).and ((boolsA m).past w.heap.size)) n.shape (fun _ _ h => h.1) rfl (.inl rfl) (by unfold shapeO; simp only [hA]; (repeat (first | rw [if_pos (by omega)] | rw [if_neg (by omega)])))
      | exact rends_new (B := ⟨w, []⟩) (S := (baseA w).and ((boolsA m).past w.heap.size)) (xs := [(n.bias.xs.length : Int)]) (fun _ _ h => h.1) rfl List.mem_cons_self rfl (by intro x hx; simp only [List.mem_singleton] at hx; subst hx; omega) (by simp) (by unfold shapeO; simp only [hA]; (repeat (first | rw [if_pos (by omega)] | rw [if_neg (by omega)])))
      | exact rends_new (B := ⟨w, []⟩) (S := (baseA w).and ((boolsA m).past w.heap.size)) (xs := [s.xs.getD 0 0, s.xs.getD 1 0 / n.size, s.xs.getD 2 0 / n.size]) (fun _ _ h => h.1) rfl List.mem_cons_self rfl (mem3 (by omega) (by omega) (by omega)) (by simp) (by unfold shapeO; simp only [hA]; (repeat (first | rw [if_pos (by omega)] | rw [if_neg (by omega)])))
      | exact rends_new (B := ⟨w, []⟩) (S := (baseA w).and ((boolsA m).past w.heap.size)) (xs := [n.shape.xs.getD 0 0, s.xs.getD 1 0 - n.shape.xs.getD 2 0 + 1, s.xs.getD 2 0 - n.shape.xs.getD 3 0 + 1]) (fun _ _ h => h.1) rfl List.mem_cons_self rfl (mem3 (by omega) (by omega) (by omega)) (by simp) (by unfold shapeO; simp only [hA]; (repeat (first | rw [if_pos (by omega)] | rw [if_neg (by omega)])))
theorem refShape_any (w : World) (n : NodeV) (hn : n.ok w) (sv : ShapesV) (hs : sv.ok w) (hf : Formed n sv.l.length) (hg : ∀ s ∈ sv.l, 0 < entries s.xs) :
    Calls Try.prog 68 #[.agg n.cells.toArray, sv.val] w (RShapePost w n sv.l (shapeO n (sv.l.map (·.xs)))) := by
  by_cases h12 : n.kind = 1 ∨ n.kind = 2
  · exact refShape_own w n hn sv h12
  · exact refShape_ahead w n hn sv hs hf hg h12
end Go.Proofs.Ytdmkdogakbipbaa

/- GP -/
namespace Go.Proofs.Ytdmkdogakbipbaa
open Go.SX Go.RowKit
theorem call_rshape {cx : Cx} {f : FuncId} {args : List SV} {H : Heap} {S : Asn} {nx : Nat} {K : SV → Heap → Asn → Nat → Prop} {n : NodeV} {l : List IntsV} (R0 : Option (List Int)) (hf : ∀ ar w, (callFunc f ar).run cx.P w = .ok (.enter f ar) w)
    (hn : ∀ R w', S.holds R w' → n.shape.ok w') (hl : ∀ u ∈ l, ∀ R w', S.holds R w' → u.ok w') (hpos : ∀ xs, R0 = some xs → 0 < xs.length)
    (hc : ∀ ρ w', Abs cx.B ρ nx H S w' → Calls cx.P f (SV.rfs ρ args).toArray w' (RShapePost w' n l R0))
    (h0 : R0 = none → K (.c (.slice none 0 0)) H S nx)
    (h1 : ∀ (a : Addr) (cap : Nat) (xs : List Int) (S' : Asn), R0 = some xs → (∀ R w', S'.holds R w' → S.holds R w' ∧ (⟨some a, cap, xs⟩ : IntsV).ok w') → (⟨some a, cap, xs⟩ : IntsV).sane → K (.c (.slice (some a) xs.length cap)) H S' nx) : callK cx f args H S nx K := by
  rw [callK_def]
  refine ⟨hf, fun ρ w hw => (hc ρ w hw).mono ?_⟩
  rintro e w' ⟨v, rfl, he, hnone, hv⟩
  have hw' := hw.ext he
  cases hr : R0 with
  | none =>
    rw [hnone hr]
    exact ⟨.c (.slice none 0 0), ρ, H, S, nx, rfl, fun _ _ => rfl, Nat.le_refl _, SV.lt_c _, hw', h0 hr⟩
  | some xs =>
    obtain ⟨u, rfl, hu, hcase⟩ := hv xs hr
    obtain ⟨ub, uc, us⟩ := u
    simp only at hu
    subst hu
    have old : ∀ (hok : ∀ R w', S.holds R w' → (⟨ub, uc, us⟩ : IntsV).ok w'), ∃ v' ρ' H' S' nx', Ending.returned (IntsV.val ⟨ub, uc, us⟩) = .returned (v'.rf ρ') ∧ (∀ i, i < nx → ρ' i = ρ i) ∧ nx ≤ nx' ∧ v'.lt nx' ∧ Abs cx.B ρ' nx' H' S' w' ∧ K v' H' S' nx' := fun hok => by
      have h := holds_of_abs hw' fun R h => hok R w' h
      obtain ⟨a, ha⟩ := h.base (hpos us hr)
      simp only at ha
      subst ha
      exact ⟨.c (.slice (some a) us.length uc), ρ, H, S, nx, rfl, fun _ _ => rfl, Nat.le_refl _, SV.lt_c _, hw', h1 a uc us S hr (fun R w'' g => ⟨g, hok R w'' g⟩) h.sane⟩
    rcases hcase with hcase | hcase | ⟨hsane, hnew⟩
    · exact old (fun R w' h => hcase ▸ hn R w' h)
    · exact old (hl _ hcase)
    · have hg := hw.grow (D := intsA ⟨ub, uc, us⟩) he hnew
      have h : (⟨ub, uc, us⟩ : IntsV).ok w' := intsA_ok hsane hnew
      obtain ⟨a, ha⟩ := h.base (hpos us hr)
      simp only at ha
      subst ha
      exact ⟨.c (.slice (some a) us.length uc), ρ, H, _, nx, rfl, fun _ _ => rfl, Nat.le_refl _, SV.lt_c _, hg, h1 a uc us _ hr (fun R w'' g => ⟨g.1, intsA_ok hsane ((intsA _).mono g.2 (fun b hb => hb.1))⟩) hsane⟩
theorem near_own {B : Base} {ρ : Nat → SX.Loc} {nx : Nat} {H : Heap} {S : Asn} {w : World} {i m : Nat} {T : TypeId} {R : List (List Value)} {xs : List Int} (hw : Abs B ρ nx H S w) (he : (i, Ent.rows R 1 T) ∈ H) (hR : R = ints xs) (hm : m = xs.length) (hf : ∀ x ∈ xs, i64 x) (hl : xs.length ≤ 1000000) :
    Calls Try.prog 69 (SV.rfs ρ [.os i m]).toArray w fun e w' => e = .returned (.bool (nearL xs)) ∧ Ext w w' := by
  obtain ⟨v, e1, rfl, hv⟩ := own_ints hw he hR hm hf hl
  rw [e1]; exact refNear_any w v hv
theorem rows_snoc2 (us : List IntsV) (l : SX.Loc) (xs : List Int) {i : Nat} {T : TypeId} {H : Heap} : (i, Ent.rows (shRows (us ++ [IntsV.mk l.base l.cap xs])) 1 T) ∈ (i, Ent.rows (List.take us.length (shRows us) ++ [[.slice l.base (0 + (ints xs).length) l.cap]]) 1 T) :: H := by
  have e : Value.slice l.base (0 + (ints xs).length) l.cap = IntsV.val ⟨l.base, l.cap, xs⟩ := by rw [ints_length, Nat.zero_add]; rfl
  rw [e]
  exact rows_snoc us _
set_option maxRecDepth 20000 in
set_option maxHeartbeats 8000000 in
theorem refCheck_any (w : World) (g : GraphV) (hg : g.ok w) : Calls Try.prog 38 #[g.val] w (CheckPost w (check g)) := by
  by_cases hc : g.l.length < 1 ∨ 24 < g.l.length ∨ g.out < 0 ∨ (g.l.length : Int) ≤ g.out
  · have hs : check g = (3, []) := by unfold check; rw [if_pos hc]
    rw [hs]
    refine calls_of tab tabOk Try.func38 rfl rfl rfl [] (fun _ => ⟨none, 0⟩) [.agg [.c (.slice g.base g.l.length g.cap), .c (.int .i64 g.out)]] [] (baseA w) 0 rfl rfl (by show 1 ≤ _; decide) (abs_base w) ?_
    (repeat' ((conv => whnf) <;> first | (show Wp _ _ _ _ _ _ _; refine Wp.go tabOk rfl ?_) | (show @cmpK _ _ _; (first | refine cmpY ?_ | refine cmpN ?_ | (refine cmp_both ?_ ?_ <;> intro _))) | (show wrapK _ _ _; refine wrapA ?_) | (show leK _ _ _; refine leA ?_) | (show roomK _ _ _; refine roomA ?_) | (show ltK _ _ _; refine ltA ?_) | (show _ ∧ _; refine ⟨?_, ?_⟩) | (show keepK _ _ _ _ _; refine keepA ?_) | refine own_keep ?_ | refine ap_old ?_))
    all_goals exact ends_bad (fun _ _ h => h) rfl rfl (by decide)
  · have hs : check g = checkR g.l [] := by unfold check; rw [if_neg hc]
    rw [hs]
    obtain ⟨a, ha⟩ : ∃ a, g.base = some a := base_some (j := 0) hg.rows (by rw [nodeRows_length]; omega)
    refine calls_of tab tabOk Try.func38 rfl rfl rfl [] (fun _ => ⟨none, 0⟩) [.agg [.c (.slice g.base g.l.length g.cap), .c (.int .i64 g.out)]] [] (baseA w) 0 rfl rfl (by show 1 ≤ _; decide) (abs_base w) ?_
    (repeat' ((conv => whnf) <;> first | (show Wp _ _ _ _ _ _ _; refine Wp.go tabOk rfl ?_) | (show @cmpK _ _ _; (first | refine cmpY ?_ | refine cmpN ?_ | (refine cmp_both ?_ ?_ <;> intro _))) | (show wrapK _ _ _; refine wrapA ?_) | (show leK _ _ _; refine leA ?_) | (show roomK _ _ _; refine roomA ?_) | (show ltK _ _ _; refine ltA ?_) | (show _ ∧ _; refine ⟨?_, ?_⟩) | (show keepK _ _ _ _ _; refine keepA ?_) | refine own_keep ?_ | refine ap_old ?_))
    refine Wp.loop (σ := Nat × List IntsV) 2 (fun ⟨k, us⟩ => [(32, .c (.slice g.base g.l.length g.cap)), (33, .c (.int .i64 g.l.length)), (34, .c (.int .i64 k)), (4, .os 1 k)]) (fun ⟨_, us⟩ => [(1, .rows (shRows us) 1 33)]) (fun ⟨_, us⟩ => (baseA w).and (eachA w.heap.size us))
      (fun ⟨k, us⟩ => k ≤ g.l.length ∧ us.length = k ∧ (∀ u ∈ us, u.sane ∧ 0 < entries u.xs) ∧ checkR g.l [] = checkR (g.l.drop k) (us.map (·.xs))) (fun s => g.l.length - s.1) (0, []) [(1, none)] (by decide) (fun s => ⟨rfl, rfl⟩) ⟨by simp, rfl, by simp, rfl⟩ ⟨rfl, ⟨rfl, rfl, rfl, rfl, trivial⟩, ⟨rfl, trivial⟩, fun R w' h => ⟨h, eachA_nil _ _ _⟩⟩ ?_
    rintro ⟨k, us⟩ ⟨hk, hul, hus, he⟩
    by_cases hlt : k < g.l.length
    · rw [drop_at hlt] at he
      have hn := hg.each _ (List.getElem_mem hlt)
      have hsm := hg.small _ (List.getElem_mem hlt)
      generalize hnk : g.l[k] = n at *
      have hrow : (nodeRows g.l)[k]? = some n.cells := by rw [nodeRows_get hlt, hnk]
      subst hul
      have hgs : ∀ s ∈ us.map (·.xs), 0 < entries s := fun s hs => by obtain ⟨u, hu, rfl⟩ := List.mem_map.1 hs; exact (hus u hu).2
      have hlm : (us.map (·.xs)).length = us.length := List.length_map _
      have fL : ∀ x ∈ [n.lo, n.hi], i64 x := by intro x hx; simp at hx; rcases hx with rfl | rfl; exact hn.loFits; exact hn.hiFits
      (repeat' ((conv => whnf) <;> first | (show idxK _ _ _ _ _; refine idx_of a us.length ha rfl hlt ?_) | (show roAggK _ _ _ _; (refine roAgg_row (fun R w' h => by rw [← ha]; exact rows_base h.1 hg.rows) _ hrow rfl ?_)) | (show callK _ 67 _ _ _ _ _; ((refine call_bool (f := 67) Try.call67 _ (fun ρ w' hw => refForm_any w' n (holds_of_abs hw fun R h => hn.later h.1) us.length) ?_ ?_ <;> intro hform))) | (show callK _ 68 _ _ _ _ _; (refine call_rshape (f := 68) (n := n) (l := us) (shapeO n (us.map fun x : IntsV => x.xs)) Try.call68 (fun R w' h => hn.shape.later h.1) (fun u hu R w' h => intsA_ok (hus u hu).1 ((intsA u).mono (h.2 u hu) (fun b hb => hb.1))) (fun xs hr => (entries_dims (shape_good (n := n) (sh := us.map fun x : IntsV => x.xs) (by rw [List.length_map]; exact formed_of hform) hgs hr rfl)).1) (fun ρ w' hw => refShape_any w' n (holds_of_abs hw fun R h => hn.later h.1) ⟨(ρ 1).base, (ρ 1).cap, us⟩ (shapes_abs hw (List.mem_cons_of_mem _ List.mem_cons_self) (fun R w' h => h.2) hus (by omega)) (formed_of hform) (fun s hs => (hus s hs).2)) (fun hr => ?_) (fun ua uc xs S' hr hS' hsane => ?_))) | (show callK _ 69 [.c n.data.val] _ _ _ _; ((refine call_bool (f := 69) Try.call69 _ (fun ρ w' hw => refNear_any w' n.data (holds_of_abs hw fun R h => hn.data.later (hS' _ _ h).1.1)) ?_ ?_ <;> intro hnd))) | (show callK _ 69 [.c n.bias.val] _ _ _ _; ((refine call_bool (f := 69) Try.call69 _ (fun ρ w' hw => refNear_any w' n.bias (holds_of_abs hw fun R h => hn.bias.later (hS' _ _ h).1.1)) ?_ ?_ <;> intro hnb))) | (show callK _ 69 _ _ _ _ _; ((refine call_bool (f := 69) Try.call69 _ (fun ρ w' hw => near_own hw List.mem_cons_self (xs := [n.lo, n.hi]) rfl rfl fL (by simp)) ?_ ?_ <;> intro hnl))) | (show pureK _ _ _; (first | refine slice_nil_yes (ti 33 rfl) rfl ?_ | refine slice_nil_no (ti 33 rfl) rfl rfl ?_)) | (show roRowsK _ _ _ _ _; refine roRows_in (ints_length xs) (fun R w' h => (hS' R w' h).2.rows) ints_row ?_) | (show ownK _ ((_, Ent.rows (_ ++ ints _) _ _) :: _) _ _ _; refine own_freeze w.heap.size (fun R w' h b hb => ((hS' R w' h).1.1 b hb).1) (fun l hl => ?_)) | (show leK _ _ _; (refine le_of (by first | exact Nat.zero_le _ | (rw [shRows_length]; exact Nat.le_refl _)) ?_)) | (show roomK _ _ _; (refine room_of (by first | (show (us.length + 1) * 24 ≤ 140737488355328; omega) | (show (0 + (ints xs).length) * 8 ≤ 140737488355328; rw [ints_length]; have := hsane.few; simp only at this; omega)) ?_)) | (show Wp _ _ _ _ _ _ _; refine Wp.go tabOk rfl ?_) | (show @cmpK _ _ _; (first | refine cmpY ?_ | refine cmpN ?_ | (refine cmp_both ?_ ?_ <;> intro _))) | (show wrapK _ _ _; refine wrapA ?_) | (show leK _ _ _; refine leA ?_) | (show roomK _ _ _; refine roomA ?_) | (show ltK _ _ _; refine ltA ?_) | (show _ ∧ _; refine ⟨?_, ?_⟩) | (show keepK _ _ _ _ _; refine keepA ?_) | refine own_keep ?_ | refine ap_old ?_))
      all_goals (conv => whnf)
      · exact ends_bad (B := ⟨w, []⟩) (fun _ _ h => h.1) rfl (he.trans (checkR_shape (by rw [hlm]; exact hform) hr)) (by decide)
      · exact ends_bad (B := ⟨w, []⟩) (fun R w' h => (hS' R w' h).1.1) rfl (he.trans (checkR_near (by rw [hlm]; exact hform) hr (by unfold nearB; rw [hnd, hnb, hnl, decide_eq_false (by omega)]; rfl))) (by decide)
      · exact ⟨(us.length + 1, us ++ [IntsV.mk l.base l.cap xs]), [(1, some 7)], ⟨hlt, by simp, each_snoc hus ⟨hsane.fits, by simpa [ints_length] using hl, hsane.few⟩ (shape_good (by rw [hlm]; exact formed_of hform) hgs hr rfl), he.trans ((checkR_next (by rw [hlm]; exact hform) hr (by unfold nearB; rw [hnd, hnb, hnl, decide_eq_true (by omega)]; rfl)).trans (by rw [List.map_append]; rfl))⟩, by simp only; omega, rfl, ⟨rfl, rfl, rfl, rfl, trivial⟩, ⟨rows_snoc2 us l xs, trivial⟩, fun R w' h => ⟨(hS' R w' h.1).1.1, eachA_snoc (hS' R w' h.1).1.2 h.2⟩⟩
      · exact ends_bad (B := ⟨w, []⟩) (fun R w' h => (hS' R w' h).1.1) rfl (he.trans (checkR_near (by rw [hlm]; exact hform) hr (by unfold nearB; rw [hnl]; simp))) (by decide)
      · exact ends_bad (B := ⟨w, []⟩) (fun R w' h => (hS' R w' h).1.1) rfl (he.trans (checkR_near (by rw [hlm]; exact hform) hr (by unfold nearB; rw [hnb]; simp))) (by decide)
      · exact ends_bad (B := ⟨w, []⟩) (fun R w' h => (hS' R w' h).1.1) rfl (he.trans (checkR_near (by rw [hlm]; exact hform) hr (by unfold nearB; rw [hnd]; simp))) (by decide)
      · exact ends_bad (B := ⟨w, []⟩) (fun _ _ h => h.1) rfl (he.trans (checkR_form (by rw [hlm]; exact hform))) (by decide)
    · rw [List.drop_of_length_le (by omega)] at he
      subst hul
      (repeat' ((conv => whnf) <;> first | (show Wp _ _ _ _ _ _ _; refine Wp.go tabOk rfl ?_) | (show @cmpK _ _ _; (first | refine cmpY ?_ | refine cmpN ?_ | (refine cmp_both ?_ ?_ <;> intro _))) | (show wrapK _ _ _; refine wrapA ?_) | (show leK _ _ _; refine leA ?_) | (show roomK _ _ _; refine roomA ?_) | (show ltK _ _ _; refine ltA ?_) | (show _ ∧ _; refine ⟨?_, ?_⟩) | (show keepK _ _ _ _ _; refine keepA ?_) | refine own_keep ?_ | refine ap_old ?_))
      conv => whnf
      exact ends_good (B := ⟨w, []⟩) (fun _ _ h => h.1) (fun _ _ h => h.2) (fun u hu => (hus u hu).1) rfl List.mem_cons_self rfl he
end Go.Proofs.Ytdmkdogakbipbaa

/- GQ -/
namespace Go.Proofs.Ytdmkdogakbipbaa
open Go.SX Go.RowKit
structure IntsV.raw (w : World) (v : IntsV) : Prop where
  rows : RowsI w v.base 1 (ints v.xs)
  fits : ∀ x ∈ v.xs, -9223372036854775808 ≤ x ∧ x ≤ 9223372036854775807
  room : v.xs.length ≤ v.cap
structure NodeV.raw (w : World) (n : NodeV) : Prop where
  shape : n.shape.raw w
  data : n.data.raw w
  bias : n.bias.raw w
  kindFits : i64 n.kind
  aFits : i64 n.a
  bFits : i64 n.b
  loFits : i64 n.lo
  hiFits : i64 n.hi
  sizeFits : i64 n.size
structure GraphV.raw (w : World) (g : GraphV) : Prop where
  rows : RowsI w g.base 9 (nodeRows g.l)
  each : ∀ n ∈ g.l, n.raw w
  outFits : i64 g.out
theorem IntsV.raw.later {w w' : World} {R : Nat → Prop} {v : IntsV} (h : v.raw w) (hb : (baseA w).holds R w') : v.raw w' := ⟨rows_base hb h.rows, h.fits, h.room⟩
theorem NodeV.raw.later {w w' : World} {R : Nat → Prop} {n : NodeV} (h : n.raw w) (hb : (baseA w).holds R w') : n.raw w' :=
  ⟨h.shape.later hb, h.data.later hb, h.bias.later hb, h.kindFits, h.aFits, h.bFits, h.loFits, h.hiFits, h.sizeFits⟩
theorem GraphV.raw.later {w w' : World} {R : Nat → Prop} {g : GraphV} (h : g.raw w) (hb : (baseA w).holds R w') : g.raw w' := ⟨rows_base hb h.rows, fun n hn => (h.each n hn).later hb, h.outFits⟩
theorem IntsV.raw.ok {w : World} {v : IntsV} (h : v.raw w) (hf : v.xs.length ≤ 1000000) : v.ok w := ⟨h.rows, h.fits, h.room, hf⟩
theorem call_check2 {cx : Cx} {f : FuncId} {args : List SV} {H : Heap} {S : Asn} {nx : Nat} {K : SV → Heap → Asn → Nat → Prop} (r : Int × List (List Int)) (hf : ∀ ar w, (callFunc f ar).run cx.P w = .ok (.enter f ar) w)
    (hc : ∀ ρ w', Abs cx.B ρ nx H S w' → Calls cx.P f (SV.rfs ρ args).toArray w' (CheckPost w' r))
    (h0 : r.1 ≠ 0 → K (.c (.tuple #[.slice none 0 0, .int .i64 r.1])) H S nx)
    (h1 : r.1 = 0 → ∀ sv : ShapesV, sv.l.map (·.xs) = r.2 → (∀ u ∈ sv.l, u.sane) → sv.l.length ≤ sv.cap → K (.c (.tuple #[sv.val, .int .i64 0])) H (S.and ((shapesD sv).past cx.B.w0.heap.size)) nx) : callK cx f args H S nx K := by
  rw [callK_def]
  refine ⟨hf, fun ρ w hw => (hc ρ w hw).mono ?_⟩
  rintro e w' ⟨v, rfl, he, hbad, hgood⟩
  by_cases hr : r.1 = 0
  · obtain ⟨sv, rfl, hm, hs, hd, hcap⟩ := hgood hr
    rw [hr]
    exact ⟨.c (.tuple #[sv.val, .int .i64 0]), ρ, H, _, nx, rfl, fun _ _ => rfl, Nat.le_refl _, SV.lt_c _, hw.grow he hd, h1 hr sv hm hs hcap⟩
  · rw [hbad hr]
    exact ⟨.c (.tuple #[.slice none 0 0, .int .i64 r.1]), ρ, H, S, nx, rfl, fun _ _ => rfl, Nat.le_refl _, SV.lt_c _, hw.ext he, h0 hr⟩
theorem call_check {cx : Cx} {f : FuncId} {args : List SV} {H : Heap} {S : Asn} {nx : Nat} {K : SV → Heap → Asn → Nat → Prop} (r : Int × List (List Int)) (hf : ∀ ar w, (callFunc f ar).run cx.P w = .ok (.enter f ar) w)
    (hc : ∀ ρ w', Abs cx.B ρ nx H S w' → Calls cx.P f (SV.rfs ρ args).toArray w' (CheckPost w' r))
    (h0 : r.1 ≠ 0 → K (.c (.tuple #[.slice none 0 0, .int .i64 r.1])) H S nx)
    (h1 : r.1 = 0 → ∀ sv : ShapesV, sv.l.map (·.xs) = r.2 → (∀ u ∈ sv.l, u.sane) → K (.c (.tuple #[sv.val, .int .i64 0])) H (S.and ((shapesD sv).past cx.B.w0.heap.size)) nx) : callK cx f args H S nx K :=
  call_check2 r hf hc h0 (fun e sv hm hs _ => h1 e sv hm hs)
end Go.Proofs.Ytdmkdogakbipbaa

/- GU -/
namespace Go.Proofs.Ytdmkdogakbipbaa
open Go.SX Go.RowKit
structure BytesV where
  base : Option Addr
  cap : Nat
  bs : List Nat
def BytesV.val (v : BytesV) : Value := .slice v.base v.bs.length v.cap
def bytesR (l : List Nat) : List (List Value) := l.map fun (x : Nat) => [Value.int .u8 (x : Int)]
theorem bytesR_length (l : List Nat) : (bytesR l).length = l.length := by simp [bytesR]
theorem bytesR_get {l : List Nat} {k : Nat} (h : k < l.length) : (bytesR l)[k]? = some [.int .u8 ((l[k] : Nat) : Int)] := by simp [bytesR, h]
def bytesD (v : BytesV) : Asn := rowsA v.base 1 (bytesR v.bs)
def trueA : Asn := ⟨fun _ _ => True, fun _ _ h => h⟩
def tcells (t : BytesV) (k : Nat) : List Value := [t.val, .int .i64 k]
structure TapeOk (w : World) (b : Nat) (t : BytesV) (k : Nat) : Prop where
  small : t.bs.length ≤ 1000000
  bytes : ∀ x ∈ t.bs, x ≤ 255
  data : (bytesD t).holds (oth w b) w
  at_ : k ≤ t.bs.length
  box : w.heap[b]? = some (.cells (tcells t k).toArray 30 (0, 0))
theorem ends_box {α : Type} {w : World} {b : Nat} {T : TypeId} {val : α → Value} {cells : α → List Value} {D : α → Asn} {p : α → Prop} {v : SV} {H : Heap} {S : Asn} {nx : Nat} (x : α) (hp : p x) (hv : ∀ ρ, v.rf ρ = val x) (he : (0, Ent.box (cs (cells x)) T) ∈ H)
    (hS : ∀ R w', S.holds R w' → (restA w b).holds R w') (hD : ∀ R w', S.holds R w' → ((D x).past w.heap.size).holds R w') : finK ⟨w, [(0, boxL b)]⟩ v H S nx (BoxPost w b T val cells D p) :=
  fin_of fun ρ w' hw => ⟨x, hp, by rw [hv], (box_end hw hS he).1, (box_end hw hS he).2, box_new hw hD⟩
abbrev NumPost (w : World) (b : Nat) (t : BytesV) (p : Int → Prop) : Ending → World → Prop :=
  BoxPost w b 30 (fun x : Int × Nat => .int .i64 x.1) (fun x => tcells t x.2) (fun _ => trueA) (fun x => p x.1 ∧ x.2 ≤ t.bs.length)
set_option maxRecDepth 20000 in
theorem next_any (w : World) (b : Nat) (t : BytesV) (k : Nat) (h : TapeOk w b t k) (n : Int) (hn : i64 n) :
    Calls Try.prog 41 #[.pointer (some ⟨b, 0, none⟩), .int .i64 n] w (NumPost w b t fun r => 0 ≤ r ∧ (2 ≤ n → r < n) ∧ (n < 2 → r = 0)) := by
  obtain ⟨hs, hby, hd, hk, hb⟩ := h
  by_cases hc : n < 2 ∨ t.bs.length ≤ k
  · refine calls_of tab tabOk Try.func41 rfl rfl rfl [(0, boxL b)] (fun _ => boxL b) [.lp 0 0 0 0, .c (.int .i64 n)] _ (restA w b) 1 (by simp [SV.rfs, SV.rf, boxL, add_none]) rfl (by show 2 ≤ _; decide) (abs_box hb) ?_
    (repeat' ((conv => whnf) <;> first | (show drawK _ _ _ _ _ _ _ _; refine draw_quiet tabOk mixed (by kernel_rfl) ?_) | (show Wp _ _ _ _ _ _ _; refine Wp.go tabOk rfl ?_) | (show @cmpK _ _ _; (first | refine cmpY ?_ | refine cmpN ?_ | (refine cmp_both ?_ ?_ <;> intro _))) | (show wrapK _ _ _; refine wrapA ?_) | (show leK _ _ _; refine leA ?_) | (show roomK _ _ _; refine roomA ?_) | (show ltK _ _ _; refine ltA ?_) | (show _ ∧ _; refine ⟨?_, ?_⟩) | (show keepK _ _ _ _ _; refine keepA ?_) | refine own_keep ?_ | refine ap_old ?_))
    all_goals (conv => whnf)
    all_goals exact ends_box (0, k) ⟨⟨Int.le_refl 0, fun h => (by show (0 : Int) < n; omega), fun _ => rfl⟩, hk⟩ (fun _ => rfl) List.mem_cons_self (fun _ _ h => h) (fun _ _ _ => trivial)
  · have hlt : k < t.bs.length := by omega
    obtain ⟨a, ha⟩ : ∃ a, t.base = some a := by
      rcases hd.2 with h | ⟨x, off, h, _⟩
      · have := congrArg List.length h; rw [bytesR_length, List.length_nil] at this; omega
      · exact ⟨_, h⟩
    have hx := hby _ (List.getElem_mem hlt)
    have hm : 0 ≤ ((t.bs[k] : Nat) : Int) % n ∧ ((t.bs[k] : Nat) : Int) % n < n := ⟨Int.emod_nonneg _ (by omega), Int.emod_lt_of_pos _ (by omega)⟩
    refine calls_of tab tabOk Try.func41 rfl rfl rfl [(0, boxL b)] (fun _ => boxL b) [.lp 0 0 0 0, .c (.int .i64 n)] _ (restA w b) 1 (by simp [SV.rfs, SV.rf, boxL, add_none]) rfl (by show 2 ≤ _; decide) (abs_box hb) ?_
    (repeat' ((conv => whnf) <;> first | (show idxK _ _ _ _ _; refine idx_of a k ha (by omega) hlt ?_) | (show roK _ _ _; (refine ro_row0 (fun R w' h => by rw [← ha]; exact rowsA_in (rest_holds hd h)) _ _ (bytesR_get hlt) rfl ?_)) | (show remK _ _ _; refine rem_pos (by omega) (by omega) ?_) | (show drawK _ _ _ _ _ _ _ _; refine draw_quiet tabOk mixed (by kernel_rfl) ?_) | (show Wp _ _ _ _ _ _ _; refine Wp.go tabOk rfl ?_) | (show @cmpK _ _ _; (first | refine cmpY ?_ | refine cmpN ?_ | (refine cmp_both ?_ ?_ <;> intro _))) | (show wrapK _ _ _; refine wrapA ?_) | (show leK _ _ _; refine leA ?_) | (show roomK _ _ _; refine roomA ?_) | (show ltK _ _ _; refine ltA ?_) | (show _ ∧ _; refine ⟨?_, ?_⟩) | (show keepK _ _ _ _ _; refine keepA ?_) | refine own_keep ?_ | refine ap_old ?_))
    conv => whnf
    exact ends_box (_, k + 1) ⟨⟨hm.1, fun _ => hm.2, fun h => by omega⟩, hlt⟩ (fun _ => rfl) List.mem_cons_self (fun _ _ h => h) (fun _ _ _ => trivial)

abbrev TPost {α : Type} (w : World) (b : Nat) (t : BytesV) (val : α → Value) (D : α → Asn) (p : α → Prop) : Ending → World → Prop :=
  BoxPost w b 30 (fun x : α × Nat => val x.1) (fun x => tcells t x.2) (fun x => D x.1) (fun x => p x.1 ∧ x.2 ≤ t.bs.length)
theorem callK_weak {cx : Cx} {f : FuncId} {args : List SV} {H : Heap} {S : Asn} {nx : Nat} {K : SV → Heap → Asn → Nat → Prop}
    (h : callK cx f args H S nx (fun v H' S' nx' => ∃ S2 : Asn, (∀ R w, S'.holds R w → S2.holds R w) ∧ K v H' S2 nx')) : callK cx f args H S nx K := by
  rw [callK_def] at h ⊢
  refine ⟨h.1, fun ρ w hw => (h.2 ρ w hw).mono ?_⟩
  rintro e w' ⟨v, ρ', H', S', nx', h1, h2, h3, h4, h5, S2, h6, h7⟩
  exact ⟨v, ρ', H', S2, nx', h1, h2, h3, h4, h5.sub (List.Sublist.refl _) h6, h7⟩
/-- a call with the tape as its first argument -/
theorem call_t {cx : Cx} {f : FuncId} {H : Heap} {S : Asn} {nx i : Nat} {K : SV → Heap → Asn → Nat → Prop} {α : Type} (rest : List Value) (t : BytesV) (k : Nat) (val : α → Value) (D : α → Asn) (p : α → Prop) (hi : (i, Ent.box (cs (tcells t k)) 30) ∈ H) (hf : ∀ ar w, (callFunc f ar).run cx.P w = .ok (.enter f ar) w)
    (hsm : t.bs.length ≤ 1000000) (hby : ∀ x ∈ t.bs, x ≤ 255) (hk : k ≤ t.bs.length) (hS : ∀ R w', S.holds R w' → (bytesD t).holds R w')
    (hc : ∀ R w' b, TapeOk w' b t k → S.holds R w' → (∀ x, R x → oth w' b x) → Calls cx.P f (Value.pointer (some ⟨b, 0, none⟩) :: rest).toArray w' (TPost w' b t val D p))
    (h : ∀ x k', p x → k' ≤ t.bs.length → K (.c (val x)) (setH i (.box (cs (tcells t k')) 30) H) (S.and ((D x).past cx.B.w0.heap.size)) nx) : callK cx f (.lp i 0 0 0 :: cs rest) H S nx K := by
  refine call_box hi hf (fun x : α × Nat => val x.1) (fun x => tcells t x.2) (fun x => D x.1) (fun x => p x.1 ∧ x.2 ≤ t.bs.length) ?_ (fun x hx => h x.1 x.2 hx.1 hx.2)
  intro R ρ w' b hw hR hRo hρ hb
  rw [rfs_cs] at hb
  have := hc R w' b ⟨hsm, hby, (bytesD t).mono (hS R w' hR) hRo, hk, hb⟩ hR hRo
  have e : SV.rfs ρ (.lp i 0 0 0 :: cs rest) = Value.pointer (some ⟨b, 0, none⟩) :: rest := by
    simp only [SV.rfs, SV.rf, rfs_cs, hρ, Option.map_some, add_none]
  rw [e]
  exact this
theorem call_num {cx : Cx} {f : FuncId} {H : Heap} {S : Asn} {nx i : Nat} {K : SV → Heap → Asn → Nat → Prop} (rest : List Value) (t : BytesV) (k : Nat) (p : Int → Prop) (hi : (i, Ent.box (cs (tcells t k)) 30) ∈ H) (hf : ∀ ar w, (callFunc f ar).run cx.P w = .ok (.enter f ar) w)
    (hsm : t.bs.length ≤ 1000000) (hby : ∀ x ∈ t.bs, x ≤ 255) (hk : k ≤ t.bs.length) (hS : ∀ R w', S.holds R w' → (bytesD t).holds R w')
    (hc : ∀ w' b, TapeOk w' b t k → Calls cx.P f (Value.pointer (some ⟨b, 0, none⟩) :: rest).toArray w' (NumPost w' b t p))
    (h : ∀ r k', p r → k' ≤ t.bs.length → K (.c (.int .i64 r)) (setH i (.box (cs (tcells t k')) 30) H) S nx) : callK cx f (.lp i 0 0 0 :: cs rest) H S nx K :=
  callK_weak (call_t rest t k (fun r : Int => .int .i64 r) (fun _ => trueA) p hi hf hsm hby hk hS (fun _ w' b ht _ _ => hc w' b ht) (fun r k' hp hk' => ⟨S, fun _ _ h => h.1, h r k' hp hk'⟩))
theorem small_any (w : World) (b : Nat) (t : BytesV) (k : Nat) (h : TapeOk w b t k) :
    Calls Try.prog 70 #[.pointer (some ⟨b, 0, none⟩)] w (NumPost w b t fun r => -4 ≤ r ∧ r ≤ 4) := by
  obtain ⟨hs, hby, hd, hk, hb⟩ := h
  refine calls_of tab tabOk Try.func70 rfl rfl rfl [(0, boxL b)] (fun _ => boxL b) [.lp 0 0 0 0] _ (restA w b) 1 (by simp [SV.rfs, SV.rf, boxL, add_none]) rfl (by show 1 ≤ _; decide) (abs_box hb) ?_
  (repeat' ((conv => whnf) <;> first | (show callK _ 41 _ _ _ _ _; refine call_num (f := 41) [.int .i64 9] t k _ List.mem_cons_self Try.call41 hs hby hk (fun R w' h => rest_holds hd h) (fun w' b' ht => next_any w' b' t k ht 9 ⟨by decide, by decide⟩) (fun r k' hr hk' => ?_)) | (show Wp _ _ _ _ _ _ _; refine Wp.go tabOk rfl ?_) | (show @cmpK _ _ _; (first | refine cmpY ?_ | refine cmpN ?_ | (refine cmp_both ?_ ?_ <;> intro _))) | (show wrapK _ _ _; refine wrapA ?_) | (show leK _ _ _; refine leA ?_) | (show roomK _ _ _; refine roomA ?_) | (show ltK _ _ _; refine ltA ?_) | (show _ ∧ _; refine ⟨?_, ?_⟩) | (show keepK _ _ _ _ _; refine keepA ?_) | refine own_keep ?_ | refine ap_old ?_))
  conv => whnf
  exact ends_box (_, k') ⟨⟨by have := hr.1; omega, by have := hr.2.1 (by omega); omega⟩, hk'⟩ (fun _ => rfl) List.mem_cons_self (fun _ _ h => h) (fun _ _ _ => trivial)
end Go.Proofs.Ytdmkdogakbipbaa

/- GV -/
namespace Go.Proofs.Ytdmkdogakbipbaa
open Go.SX Go.RowKit
theorem ends_ints {w : World} {b : Nat} {t : BytesV} {p : IntsV → Prop} {H : Heap} {S : Asn} {nx j m k : Nat} {xs : List Int} (h0 : (0, Ent.box (cs (tcells t k)) 30) ∈ H) (he : (j, Ent.rows (ints xs) 1 3) ∈ H) (hj : j ≠ 0) (hm : m = xs.length) (hf : ∀ x ∈ xs, i64 x) (hl : xs.length ≤ 1000000) (hk : k ≤ t.bs.length)
    (hp : ∀ u : IntsV, u.xs = xs → u.sane → p u) (hS : ∀ R w', S.holds R w' → (restA w b).holds R w') : finK ⟨w, [(0, boxL b)]⟩ (.os j m) H S nx (TPost w b t IntsV.val intsA p) := by
  subst hm
  refine fin_of fun ρ w' hw => ?_
  have hn := box_rows hw hS h0 he hj
  rw [ints_length] at hn
  obtain ⟨u, e, h1, h2, h3⟩ := newInts hn hf hl
  exact ⟨(u, k), ⟨hp u h1 h2, hk⟩, by rw [e], (box_end hw hS h0).1, (box_end hw hS h0).2, h3⟩
def smallL (xs : List Int) : Prop := ∀ x ∈ xs, -4 ≤ x ∧ x ≤ 4
theorem small_i64 {xs : List Int} (h : smallL xs) : ∀ x ∈ xs, i64 x := fun x hx => ⟨by have := (h x hx).1; omega, by have := (h x hx).2; omega⟩
theorem smallL_snoc {xs : List Int} {x : Int} (h : smallL xs) (hx : -4 ≤ x ∧ x ≤ 4) : smallL (xs ++ [x]) := by
  intro y hy
  rcases List.mem_append.1 hy with hy | hy
  · exact h y hy
  · simp at hy; subst hy; exact hx
theorem ints_snoc (xs : List Int) (x : Int) {i : Nat} {T : TypeId} {H : Heap} : (i, Ent.rows (ints (xs ++ [x])) 1 T) ∈ (i, Ent.rows (List.take xs.length (ints xs) ++ [[.int .i64 x]]) 1 T) :: H := by
  rw [show ints (xs ++ [x]) = List.take xs.length (ints xs) ++ [[.int .i64 x]] by rw [List.take_of_length_le (by rw [ints_length]; exact Nat.le_refl _)]; simp [ints]]
  exact List.mem_cons_self
abbrev RowPost (w : World) (b : Nat) (t : BytesV) (n : Int) : Ending → World → Prop := TPost w b t IntsV.val intsA (fun u => u.xs.length = n.toNat ∧ smallL u.xs ∧ u.sane)
set_option maxRecDepth 20000 in
theorem row_any (w : World) (b : Nat) (t : BytesV) (k : Nat) (h : TapeOk w b t k) (n : Int) (hn : n ≤ 1000000) (hn0 : 0 ≤ n) :
    Calls Try.prog 71 #[.pointer (some ⟨b, 0, none⟩), .int .i64 n] w (RowPost w b t n) := by
  obtain ⟨hs, hby, hd, hk, hb⟩ := h
  refine calls_of tab tabOk Try.func71 rfl rfl rfl [(0, boxL b)] (fun _ => boxL b) [.lp 0 0 0 0, .c (.int .i64 n)] _ (restA w b) 1 (by simp [SV.rfs, SV.rf, boxL, add_none]) rfl (by show 2 ≤ _; decide) (abs_box hb) ?_
  (repeat' ((conv => whnf) <;> first | (show Wp _ _ _ _ _ _ _; refine Wp.go tabOk rfl ?_) | (show @cmpK _ _ _; (first | refine cmpY ?_ | refine cmpN ?_ | (refine cmp_both ?_ ?_ <;> intro _))) | (show wrapK _ _ _; refine wrapA ?_) | (show leK _ _ _; refine leA ?_) | (show roomK _ _ _; refine roomA ?_) | (show ltK _ _ _; refine ltA ?_) | (show _ ∧ _; refine ⟨?_, ?_⟩) | (show keepK _ _ _ _ _; refine keepA ?_) | refine own_keep ?_ | refine ap_old ?_))
  refine Wp.loop (σ := Nat × Nat × List Int) 2 (fun ⟨i, _, _⟩ => [(0, .lp 0 0 0 0), (1, .c (.int .i64 n)), (5, .os 1 i), (6, .c (.int .i64 i))]) (fun ⟨_, k, xs⟩ => [(1, .rows (ints xs) 1 3), (0, .box (cs (tcells t k)) 30)]) (fun _ => restA w b)
    (fun ⟨i, k, xs⟩ => (i : Int) ≤ n ∧ k ≤ t.bs.length ∧ xs.length = i ∧ smallL xs) (fun s => n.toNat - s.1) (0, k, []) [(1, none)] (by decide) (fun s => ⟨rfl, rfl⟩) ⟨hn0, hk, rfl, fun x hx => by simp at hx⟩ ⟨rfl, ⟨rfl, rfl, rfl, rfl, trivial⟩, ⟨rfl, List.mem_cons_self, trivial⟩, fun R w' h => h⟩ ?_
  rintro ⟨i, k, xs⟩ ⟨hi, hk, hl, hsm⟩
  subst hl
  by_cases hlt : (xs.length : Int) < n
  · (repeat' ((conv => whnf) <;> first | (show callK _ 70 _ _ _ _ _; refine call_num (f := 70) [] t k _ (List.mem_cons_of_mem _ List.mem_cons_self) Try.call70 hs hby hk (fun R w' h => rest_holds hd h) (fun w' b' ht => small_any w' b' t k ht) (fun r k' hr hk' => ?_)) | (show leK _ _ _; (refine le_of (by rw [ints_length]; exact Nat.le_refl _) ?_)) | (show roomK _ _ _; (refine room_of (by show (xs.length + 1) * 8 ≤ 140737488355328; omega) ?_)) | (show Wp _ _ _ _ _ _ _; refine Wp.go tabOk rfl ?_) | (show @cmpK _ _ _; (first | refine cmpY ?_ | refine cmpN ?_ | (refine cmp_both ?_ ?_ <;> intro _))) | (show wrapK _ _ _; refine wrapA ?_) | (show leK _ _ _; refine leA ?_) | (show roomK _ _ _; refine roomA ?_) | (show ltK _ _ _; refine ltA ?_) | (show _ ∧ _; refine ⟨?_, ?_⟩) | (show keepK _ _ _ _ _; refine keepA ?_) | refine own_keep ?_ | refine ap_old ?_))
    exact ⟨(xs.length + 1, k', xs ++ [r]), [(1, some 3)], ⟨by show ((xs.length + 1 : Nat) : Int) ≤ n; omega, hk', by simp, smallL_snoc hsm hr⟩, by simp only; omega, rfl, ⟨rfl, rfl, rfl, rfl, trivial⟩, ⟨ints_snoc xs r, List.mem_cons_of_mem _ (List.mem_cons_of_mem _ (List.mem_cons_self : (0, Ent.box (cs (tcells t k')) 30) ∈ (0, Ent.box (cs (tcells t k')) 30) :: [])), trivial⟩, fun R w' h => h⟩
  · (repeat' ((conv => whnf) <;> first | (show Wp _ _ _ _ _ _ _; refine Wp.go tabOk rfl ?_) | (show @cmpK _ _ _; (first | refine cmpY ?_ | refine cmpN ?_ | (refine cmp_both ?_ ?_ <;> intro _))) | (show wrapK _ _ _; refine wrapA ?_) | (show leK _ _ _; refine leA ?_) | (show roomK _ _ _; refine roomA ?_) | (show ltK _ _ _; refine ltA ?_) | (show _ ∧ _; refine ⟨?_, ?_⟩) | (show keepK _ _ _ _ _; refine keepA ?_) | refine own_keep ?_ | refine ap_old ?_))
    conv => whnf
    exact ends_ints (List.mem_cons_of_mem _ List.mem_cons_self) List.mem_cons_self (by decide) rfl (small_i64 hsm) (by omega) hk (fun u hu hs => ⟨by rw [hu]; omega, hu ▸ hsm, hs⟩) (fun _ _ h => h)
end Go.Proofs.Ytdmkdogakbipbaa

