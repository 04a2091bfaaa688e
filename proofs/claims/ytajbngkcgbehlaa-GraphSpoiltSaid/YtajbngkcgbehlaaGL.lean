import Derived.Test.YtajbngkcgbehlaaGK
namespace Go.Proofs.Ytajbngkcgbehlaa
open Go.SX Go.RowKit
/-! bools in rows -/
def bools (l : List Bool) : List (List Value) := l.map fun b => [.bool b]
theorem bools_length (l : List Bool) : (bools l).length = l.length := by simp [bools]
structure BoolsV where
  base : Option Addr
  cap : Nat
  bs : List Bool
def BoolsV.val (v : BoolsV) : Value := .slice v.base v.bs.length v.cap
def boolsA (v : BoolsV) : Asn := rowsA v.base 1 (bools v.bs)
def BoolsPost (w : World) (l : List Bool) (e : Ending) (w' : World) : Prop :=
  ∃ u : BoolsV, (u.bs = l ∧ ∃ a, u.base = some a) ∧ e = .returned u.val ∧ Ext w w' ∧ (boolsA u).holds (fun b => w.heap.size ≤ b ∧ b < w'.heap.size) w'
theorem ends_bools {B : Base} {H : Heap} {S : Asn} {nx i m : Nat} {T : TypeId} {l : List Bool} {w : World} (hb : ∀ R w', S.holds R w' → (baseA B.w0).holds R w') (hw0 : B.w0 = w) (he : (i, Ent.rows (bools l) 1 T) ∈ H) (hm : m = l.length) (hl : l ≠ []) :
    finK B (.os i m) H S nx (BoolsPost w l) := by
  subst hw0 hm
  refine fin_of fun ρ w' hw => ?_
  have hn := new_of_abs hw hb he
  obtain ⟨base, cap, e1, h1⟩ := newRows_data hn
  rw [bools_length] at e1
  refine ⟨⟨base, cap, l⟩, ⟨rfl, ?_⟩, by rw [e1]; rfl, ext_of_abs hw hb, h1⟩
  rcases h1.2 with h | ⟨b, off, h, _⟩
  · exact absurd (by simpa [bools] using h) hl
  · exact ⟨_, h⟩
theorem ro_bool {a : Addr} {j : Nat} {S : Asn} {l : List Bool} {K : SV → Prop} (hx : ∀ R w, S.holds R w → RowsI w (some a) 1 (bools l)) (hj : j < l.length) (h : K (.c (.bool (l.getD j false)))) : roK (a.add (j * 1)) S K :=
  ro_row0 hx [.bool (l.getD j false)] (.bool (l.getD j false)) (by simp [bools, List.getD, hj]) rfl h
theorem ro_prop {a : Addr} {j : Nat} {S : Asn} {l : List Bool} {K : SV → Prop} (p : Prop) [Decidable p] (hx : ∀ R w, S.holds R w → RowsI w (some a) 1 (bools l)) (hj : j < l.length) (he : l.getD j false = decide p) (h1 : p → K (.c (.bool true))) (h2 : ¬ p → K (.c (.bool false))) : roK (a.add (j * 1)) S K := by
  refine ro_bool hx hj ?_
  rw [he]
  by_cases hp : p
  · rw [decide_eq_true hp]; exact h1 hp
  · rw [decide_eq_false hp]; exact h2 hp

@[irreducible] def mayL (k : Int) : Option (List Bool) :=
  if k = 1 then some [false, false, true, true, false, false, false]
  else if k = 2 then some [false, false, true, false, false, true, false]
  else if k = 3 then some [true, false, false, false, false, true, true]
  else if k = 4 then some [true, false, true, false, false, true, true]
  else if k = 5 then some [true, false, false, false, true, false, false]
  else if k = 6 then some [true, true, false, false, false, false, false]
  else if k = 7 then some [true, false, false, false, false, true, false]
  else if k = 8 then some [true, false, false, false, false, true, false]
  else if k = 9 then some [true, false, true, false, false, false, false]
  else none
theorem may_any (w : World) (k : Int) (l : List Bool) (hm : mayL k = some l) : Calls Try.prog 92 #[.int .i64 k] w (BoolsPost w l) := by
  unfold mayL at hm
  refine calls_of tab tabOk Try.func92 rfl rfl rfl [] (fun _ => ⟨none, 0⟩) [.c (.int .i64 k)] [] (baseA w) 0 rfl rfl (by show 1 ≤ _; decide) (abs_base w) ?_
  (repeat' ((conv => whnf) <;> first | (show Wp _ _ _ _ _ _ _; (refine Wp.go tabOk rfl ?_)) | (show @cmpK _ _ _; (first | refine cmp_yes (by omega) ?_ | refine cmp_no (by omega) ?_ | (refine cmp_both ?_ ?_ <;> intro _))) | (show wrapK _ _ _; (refine wrap_i64 (by omega) (by omega) ?_)) | (show leK _ _ _; (refine le_of (by first | exact Nat.le_refl _ | omega) ?_)) | (show roomK _ _ _; (refine room_of (by first | omega | (dsimp only; omega)) ?_)) | (show ltK _ _ _; (refine lt_of (by omega) ?_)) | (show _ ∧ _; (refine ⟨?_, ?_⟩)) | (show keepK _ _ _ _ _; (refine keep_of (by first | exact List.Sublist.refl _ | exact List.Sublist.cons _ (List.Sublist.refl _) | exact List.Sublist.cons _ (List.Sublist.cons _ (List.Sublist.refl _)) | exact List.Sublist.cons _ (List.Sublist.cons _ (List.Sublist.cons _ (List.Sublist.refl _)))) (by first | exact (fun _ _ h => h) | exact (fun _ _ h => h.1) | exact (fun _ _ h => h.1.1)) ?_)) | (show ownK _ _ _ _ _; (refine own_keep ?_))))
  all_goals (repeat (first | rw [if_pos (by omega)] at hm | rw [if_neg (by omega)] at hm))
  all_goals first
    | (cases hm; done)
    | (obtain rfl := Option.some.inj hm; exact ends_bools (fun _ _ h => h) rfl List.mem_cons_self rfl (by simp))
theorem may_none (w : World) (k : Int) (hm : mayL k = none) : Calls Try.prog 92 #[.int .i64 k] w fun e w' => e = .returned (.slice none 0 0) ∧ Ext w w' := by
  unfold mayL at hm
  refine calls_of tab tabOk Try.func92 rfl rfl rfl [] (fun _ => ⟨none, 0⟩) [.c (.int .i64 k)] [] (baseA w) 0 rfl rfl (by show 1 ≤ _; decide) (abs_base w) ?_
  (repeat' ((conv => whnf) <;> first | (show Wp _ _ _ _ _ _ _; (refine Wp.go tabOk rfl ?_)) | (show @cmpK _ _ _; (first | refine cmp_yes (by omega) ?_ | refine cmp_no (by omega) ?_ | (refine cmp_both ?_ ?_ <;> intro _))) | (show wrapK _ _ _; (refine wrap_i64 (by omega) (by omega) ?_)) | (show leK _ _ _; (refine le_of (by first | exact Nat.le_refl _ | omega) ?_)) | (show roomK _ _ _; (refine room_of (by first | omega | (dsimp only; omega)) ?_)) | (show ltK _ _ _; (refine lt_of (by omega) ?_)) | (show _ ∧ _; (refine ⟨?_, ?_⟩)) | (show keepK _ _ _ _ _; (refine keep_of (by first | exact List.Sublist.refl _ | exact List.Sublist.cons _ (List.Sublist.refl _) | exact List.Sublist.cons _ (List.Sublist.cons _ (List.Sublist.refl _)) | exact List.Sublist.cons _ (List.Sublist.cons _ (List.Sublist.cons _ (List.Sublist.refl _)))) (by first | exact (fun _ _ h => h) | exact (fun _ _ h => h.1) | exact (fun _ _ h => h.1.1)) ?_)) | (show ownK _ _ _ _ _; (refine own_keep ?_))))
  all_goals (repeat (first | rw [if_pos (by omega)] at hm | rw [if_neg (by omega)] at hm))
  all_goals first
    | (cases hm; done)
    | exact ends_of (fun _ _ h => h) (fun _ => rfl) rfl
def hasL (n : NodeV) : List Bool := [decide (n.a ≠ 0), decide (n.b ≠ 0), decide ((n.shape.xs.length : Int) > 0), decide (n.lo ≠ 0 ∨ n.hi ≠ 0), decide (n.size ≠ 0), decide ((n.data.xs.length : Int) > 0), decide ((n.bias.xs.length : Int) > 0)]
theorem cmp_keep {p : Prop} [Decidable p] {K : Bool → Prop} (h : K (decide p)) : cmpK p K := by
  rw [cmpK_def]
  exact ⟨fun hp => by rw [decide_eq_true hp] at h; exact h, fun hp => by rw [decide_eq_false hp] at h; exact h⟩
set_option maxRecDepth 20000 in
theorem has_any (w : World) (n : NodeV) : Calls Try.prog 93 #[.agg n.cells.toArray] w (BoolsPost w (hasL n)) := by
  refine calls_of tab tabOk Try.func93 rfl rfl rfl [] (fun _ => ⟨none, 0⟩) [.agg [.c (.int .i64 n.kind), .c (.int .i64 n.a), .c (.int .i64 n.b), .c n.shape.val, .c (.int .i64 n.lo), .c (.int .i64 n.hi), .c (.int .i64 n.size), .c n.data.val, .c n.bias.val]] [] (baseA w) 0 rfl rfl (by show 1 ≤ _; decide) (abs_base w) ?_
  (repeat' ((conv => whnf) <;> first | (show @cmpK _ _ _; (first | refine cmp_keep (p := n.a ≠ 0) ?_ | refine cmp_keep (p := n.b ≠ 0) ?_ | refine cmp_keep (p := (n.shape.xs.length : Int) > 0) ?_ | refine cmp_keep (p := n.size ≠ 0) ?_ | refine cmp_keep (p := (n.data.xs.length : Int) > 0) ?_ | refine cmp_keep (p := (n.bias.xs.length : Int) > 0) ?_ | refine cmp_yes (by omega) ?_ | refine cmp_no (by omega) ?_ | (refine cmp_both ?_ ?_ <;> intro _))) | (show Wp _ _ _ _ _ _ _; (refine Wp.go tabOk rfl ?_)) | (show @cmpK _ _ _; (first | refine cmp_yes (by omega) ?_ | refine cmp_no (by omega) ?_ | (refine cmp_both ?_ ?_ <;> intro _))) | (show wrapK _ _ _; (refine wrap_i64 (by omega) (by omega) ?_)) | (show leK _ _ _; (refine le_of (by first | exact Nat.le_refl _ | omega) ?_)) | (show roomK _ _ _; (refine room_of (by first | omega | (dsimp only; omega)) ?_)) | (show ltK _ _ _; (refine lt_of (by omega) ?_)) | (show _ ∧ _; (refine ⟨?_, ?_⟩)) | (show keepK _ _ _ _ _; (refine keep_of (by first | exact List.Sublist.refl _ | exact List.Sublist.cons _ (List.Sublist.refl _) | exact List.Sublist.cons _ (List.Sublist.cons _ (List.Sublist.refl _)) | exact List.Sublist.cons _ (List.Sublist.cons _ (List.Sublist.cons _ (List.Sublist.refl _)))) (by first | exact (fun _ _ h => h) | exact (fun _ _ h => h.1) | exact (fun _ _ h => h.1.1)) ?_)) | (show ownK _ _ _ _ _; (refine own_keep ?_))))
  all_goals (conv => whnf)
  all_goals refine ends_bools (B := ⟨w, []⟩) (l := hasL n) (T := 4) (fun _ _ h => h) rfl ?_ rfl (by simp [hasL])
  all_goals (unfold hasL; (first | rw [decide_eq_true (p := n.lo ≠ 0 ∨ n.hi ≠ 0) (by omega)] | rw [decide_eq_false (p := n.lo ≠ 0 ∨ n.hi ≠ 0) (by omega)]); exact List.mem_cons_self)

theorem call_bools {cx : Cx} {f : FuncId} {args : List SV} {H : Heap} {S : Asn} {nx : Nat} {K : SV → Heap → Asn → Nat → Prop} (l : List Bool) (m : Nat) (hm : l.length = m) (hf : ∀ ar w, (callFunc f ar).run cx.P w = .ok (.enter f ar) w)
    (hc : ∀ ρ w', Abs cx.B ρ nx H S w' → Calls cx.P f (SV.rfs ρ args).toArray w' (BoolsPost w' l))
    (h : ∀ (u : BoolsV) (a : Addr), u.bs = l → u.base = some a → u.bs.length = m → K (.c u.val) H (S.and ((boolsA u).past cx.B.w0.heap.size)) nx) : callK cx f args H S nx K :=
  call_past hf BoolsV.val boolsA (fun u => u.bs = l ∧ ∃ a, u.base = some a) (fun ρ w' hw => hc ρ w' hw) (fun u hu => hu.2.elim fun a ha => h u a hu.1 ha (by rw [hu.1, hm]))
theorem boolsA_in {u : BoolsV} {a : Addr} {l : List Bool} {N : Nat} {R : Nat → Prop} {w : World} (hl : u.bs = l) (ha : u.base = some a) (h : ((boolsA u).past N).holds R w) : RowsI w (some a) 1 (bools l) := by
  subst hl
  rw [← ha]; exact rowsA_in h
theorem slice_nil_no {P : Program} {t : TypeId} {ti : TI} (h : mkTI P t = some ti) (hk : ti.kind = 1) {ox oy : Operand} {base : Option Addr} {len cap : Nat} {K : SV → Prop} {a : Addr} (hb : base = some a) (hK : K (.c (.bool false))) :
    pureK P (do eqGuard .eql t ox oy (.slice base len cap) (.slice none 0 0); binOp .eql t (.slice base len cap) (.slice none 0 0)) K := by
  subst hb
  exact slice_nil_eql h hk hK
theorem slice_nil_yes {P : Program} {t : TypeId} {ti : TI} (h : mkTI P t = some ti) (hk : ti.kind = 1) {ox oy : Operand} {K : SV → Prop} (hK : K (.c (.bool true))) :
    pureK P (do eqGuard .eql t ox oy (.slice none 0 0) (.slice none 0 0); binOp .eql t (.slice none 0 0) (.slice none 0 0)) K := slice_nil_eql h hk hK
theorem lacks_eq {n : NodeV} {a b sh sp si da bi : Bool} : lacksB n a b sh sp si da bi = decide (¬ ((n.a ≠ 0 ∧ a = false) ∨ (n.b ≠ 0 ∧ b = false) ∨ ((n.shape.xs.length : Int) > 0 ∧ sh = false) ∨ ((n.lo ≠ 0 ∨ n.hi ≠ 0) ∧ sp = false) ∨ (n.size ≠ 0 ∧ si = false) ∨ ((n.data.xs.length : Int) > 0 ∧ da = false) ∨ ((n.bias.xs.length : Int) > 0 ∧ bi = false))) := by
  unfold lacksB
  rw [Bool.eq_iff_iff]
  simp only [Bool.and_eq_true, Bool.or_eq_true, decide_eq_true_eq]
  cases a <;> cases b <;> cases sh <;> cases sp <;> cases si <;> cases da <;> cases bi <;> simp only [Bool.false_eq_true, Bool.true_eq_false, false_or, true_or, and_false, and_true, or_false, true_and, reduceCtorEq] <;> first | omega | simp
end Go.Proofs.Ytajbngkcgbehlaa
