import Derived.Test.YtipjlnkdfeifkaaGreatDoorCards
import Derived.Test.YtipjlnkdfeifkaaGreatDoorTie
import Derived.ProofKit
import Derived.OpenShut
import Derived.Deep.DeepHandedRow
import Derived.Lib.LaidTab
import Derived.Test.YtipjlnkdfeifkaaGreatDoorKEvalNilCard7
/- ZEc -/
namespace Go.Proofs.YtipjlnkdfeifkaaGreatDoor
open Go.SX Go.ChangeShapes Go.WideShapes Go.ChangeAt Go.RowKit
/- EvalNil is proved: a nil eval answers that it is none; for every input, over the table of math/bits as the program's text lays it. -/
theorem ownP : ownKnob Tryz.prog.godebug = none := by kernel_rfl
theorem laidOutP : laidOutB Tryz.prog = true := by kernel_rfl
theorem gTab : Tryz.prog.globalNamed "math/bits.deBruijn64tab" = some 2 := by kernel_rfl
theorem gTabType : (Tryz.prog.globals[2]?).map (·.type) = some 174 := by kernel_rfl
theorem cellsTab : Tryz.prog.cellsOf 174 = 64 := by kernel_rfl
theorem cellsByte : Tryz.prog.cellsOf 5 = 1 := by kernel_rfl
theorem tabIs {W : World} (h : laidMetH Tryz.prog Rows.evalNilRow.laid W) : Lib.TabIs Tryz.prog W "math/bits.deBruijn64tab" .u8 (Lib.deBruijn64tab.map fun (x : Nat) => (x : Int)) :=
  Lib.tabIs_of_head (rest := []) gTab gTabType Tryz.underlying174 Tryz.underlying5 cellsByte cellsTab h
theorem tabW_of {W : World} (h : laidMetH Tryz.prog Rows.evalNilRow.laid W) : TabW W := fun j hj => by
  have hl : Lib.deBruijn64tab.length = 64 := rfl
  have := (tabIs h).cell gTab j (by rw [List.length_map, hl]; exact hj)
  rw [this]
  simp [List.getD_eq_getElem?_getD, List.getElem?_map, List.getElem?_eq_getElem (show j < Lib.deBruijn64tab.length by rw [hl]; exact hj)]
theorem opens_ofP {H : Type} {enc : TypeId × Value → H} {P : Program} {w : World} {t : TypeId} {Q : List Value → Prop} {base : Nat} {sp : Nat → Bool} {held : Bool} {v : Value} {d : DataW H} {ps : List MemPlace} (h : Opens P w t Q) (ht : DataW.Trod enc P w base sp held t v d ps) : Q v.cells.toList := by
  obtain ⟨n, hn⟩ := ht
  exact h.out enc base sp held n _ _ hn
theorem list1P {α : Type} {l : List α} (h : l.length = 1) : ∃ a, l = [a] := by
  match l, h with
  | [a], _ => exact ⟨a, rfl⟩
theorem opens_poly (w : World) : Opens Tryz.prog w 45 fun cs => ∃ b n c, cs = [.slice b n c] := by
  have h1 := opens_slice (P := Tryz.prog) (w := w) (k := 1) Tryz.underlying38 (by kernel_rfl) (opens_int Tryz.underlying37)
  have h2 := opens_slice (P := Tryz.prog) (w := w) (k := 1) Tryz.underlying43 (by kernel_rfl) h1
  have h := opens_struct (P := Tryz.prog) (w := w) (k := 1) (Q := fun _ cs => ∃ b n c, cs = [.slice b n c]) Tryz.underlying45 (by kernel_rfl) (by
    intro f hf
    simp only [List.mem_toArray, List.mem_cons, List.not_mem_nil, or_false] at hf
    subst hf
    exact Opens.mono h2 fun cs ⟨b, c, xs, e, _⟩ => ⟨b, _, c, e⟩)
  refine Opens.mono h ?_
  rintro cs ⟨hl, hf⟩
  obtain ⟨a, rfl⟩ := list1P hl
  have c1 : Tryz.prog.cellsOf 43 = 1 := by kernel_rfl
  simp only [List.mem_toArray, List.mem_cons, List.not_mem_nil, or_false, forall_eq, c1, List.drop_zero, List.take_succ_cons, List.take_zero] at hf
  exact hf
theorem list2P {α : Type} {l : List α} (h : l.length = 2) : ∃ a b, l = [a, b] := by
  match l, h with
  | [a, b], _ => exact ⟨a, b, rfl⟩
theorem opens_polys (w : World) : Opens Tryz.prog w 22 fun cs => ∃ b n c, cs = [.slice b n c] :=
  Opens.mono (opens_slice (P := Tryz.prog) (w := w) (k := 1) Tryz.underlying22 (by kernel_rfl) (opens_poly w)) fun cs ⟨b, c, xs, e, _⟩ => ⟨b, _, c, e⟩
theorem opens_cipher (w : World) : Opens Tryz.prog w 24 fun cs => ∃ b n c, cs = [.slice b n c] := by
  have h := opens_struct (P := Tryz.prog) (w := w) (k := 1) (Q := fun _ cs => ∃ b n c, cs = [.slice b n c]) Tryz.underlying24 (by kernel_rfl) (by
    intro f hf
    simp only [List.mem_toArray, List.mem_cons, List.not_mem_nil, or_false] at hf
    subst hf
    exact opens_polys w)
  refine Opens.mono h ?_
  rintro cs ⟨hl, hf⟩
  obtain ⟨a, rfl⟩ := list1P hl
  have c1 : Tryz.prog.cellsOf 22 = 1 := by kernel_rfl
  simp only [List.mem_toArray, List.mem_cons, List.not_mem_nil, or_false, forall_eq, c1, List.drop_zero, List.take_succ_cons, List.take_zero] at hf
  exact hf
theorem opens_switch (w : World) : Opens Tryz.prog w 26 fun cs => ∃ b1 n1 c1 b2 n2 c2, cs = [.slice b1 n1 c1, .slice b2 n2 c2] := by
  have h := opens_struct (P := Tryz.prog) (w := w) (k := 2) (Q := fun _ cs => ∃ b n c, cs = [.slice b n c]) Tryz.underlying26 (by kernel_rfl) (by
    intro f hf
    simp only [List.mem_toArray, List.mem_cons, List.not_mem_nil, or_false] at hf
    rcases hf with rfl | rfl
    · exact opens_polys w
    · exact opens_polys w)
  refine Opens.mono h ?_
  rintro cs ⟨hl, hf⟩
  obtain ⟨a, b, rfl⟩ := list2P hl
  have c1 : Tryz.prog.cellsOf 22 = 1 := by kernel_rfl
  simp only [List.mem_toArray, List.mem_cons, List.not_mem_nil, or_false, forall_eq_or_imp, forall_eq, c1, List.drop_zero, List.drop_succ_cons, List.take_succ_cons, List.take_zero] at hf
  obtain ⟨⟨b1, n1, c1, e1⟩, b2, n2, c2, e2⟩ := hf
  cases e1; cases e2
  exact ⟨b1, n1, c1, b2, n2, c2, rfl⟩
set_option maxRecDepth 100000 in
theorem contractP (H : Type) (enc : TypeId × Value → H) (W : World) (base : Nat) (args : Array Value) (ds gs : List (DataW H)) (before : List MemPlace)
    (hval : ∀ (j : Nat) t v, Tryz.f3.params[j]? = some t → args[j]? = some v → Value.okWide Tryz.prog W .any base t v)
    (hW : DataW.Whole enc Tryz.prog Tryz.f3.params.toList Rows.evalNilSpec.vars false W args.toList ds gs before) (hL : laidMetH Tryz.prog Rows.evalNilRow.laid W) :
    Calls Tryz.prog 3 args W fun e W' => ∃ v, e = .returned v ∧ Rows.evalNilSpec.post enc Tryz.prog Tryz.f3 false true false false W args v W' := by
  have hW' := hW
  obtain ⟨p, q, hA0, hV, rfl, hfz, hnd⟩ := hW
  have hA : DataW.TrodAll enc Tryz.prog W 0 (fun _ => true) true Tryz.f3.params.toList args.toList ds p := hA0
  rw [Tryz.params3] at hA hval
  obtain ⟨v0, vs0, d0, ds0, p0, q0, e0, rfl, rfl, h0, r0⟩ := trodAll_cons hA
  obtain ⟨v1, vs1, d1, ds1, p1, q1, rfl, rfl, rfl, h1, r1⟩ := trodAll_cons r0
  obtain ⟨rfl, rfl, rfl⟩ := trodAll_nil r1
  obtain rfl : args = #[v0, v1] := by cases args; simp_all
  obtain ⟨b, n, c, hv0⟩ := opens_ofP (opens_cipher W) h0
  obtain ⟨b1, n1, c1, b2, n2, c2, hv1⟩ := opens_ofP (opens_switch W) h1
  obtain rfl : v0 = .agg #[.slice b n c] := cells_agg Tryz.underlying24 (hval 0 24 v0 rfl rfl) hv0
  obtain rfl : v1 = .agg #[.slice b1 n1 c1, .slice b2 n2 c2] := cells_agg Tryz.underlying26 (hval 1 26 v1 rfl rfl) hv1
  exact law_contract laidOutP (by kernel_rfl) rfl rfl Tryz.underlying4 rfl hW' (lawNil_any W b b1 b2 n c n1 n2 c1 c2 (tabW_of hL))
/-- a world for the witness: the settled one, the table holding what its initialiser lays -/
noncomputable def laidWorldP (os : Os) : World :=
  { World.holding Tryz.prog os ⟨#[], #[], []⟩ with heap := (World.holding Tryz.prog os ⟨#[], #[], []⟩).heap.modify 2 fun
      | .cells _ t frozen => .cells (Lib.deBruijn64tab.map fun (x : Nat) => Value.int .u8 (x : Int)).toArray t frozen
      | o => o }
set_option maxRecDepth 100000 in
theorem laid_metP (os : Os) : laidMet Tryz.prog Rows.evalNilRow.laid ((laidWorldP os).forCall (fun _ _ => 0) ⟨#[], #[.agg #[.slice none 0 0], .agg #[.slice none 0 0, .slice none 0 0]], []⟩).memory :=
  laidMet_of_run' 8 (by kernel_rfl) (by kernel_rfl)
set_option maxRecDepth 100000 in
theorem readsP (os : Os) {H : Type} (enc : TypeId × Value → H) : ∃ places, DataW.whole enc Tryz.prog ((laidWorldP os).forCall (fun _ _ => 0) ⟨#[], #[.agg #[.slice none 0 0], .agg #[.slice none 0 0, .slice none 0 0]], []⟩).memory Tryz.f3.params.toList Rows.evalNilSpec.vars false #[Value.agg #[.slice none 0 0], Value.agg #[.slice none 0 0, .slice none 0 0]].toList 8 = some ([.agg [.nil], .agg [.nil, .nil]], [], places) :=
  ⟨[], by kernel_rfl⟩
set_option maxRecDepth 100000 in
theorem liftedP (os : Os) (started : os.Started) (H : Type) (enc : TypeId × Value → H) (F : Stop.Interp) :
    ReturnsInHanded {} Tryz.checked os 3 .any ((OpenSpec.ofChange Rows.evalNilSpec).preRow enc Tryz.prog Tryz.f3 Rows.evalNilRow.domain false Rows.evalNilRow.laid) (((OpenSpec.ofChange Rows.evalNilSpec).at F).post enc Tryz.prog Tryz.f3 false true false false) := by
  obtain ⟨places, hx⟩ := readsP os enc
  refine returnsInHanded_of_row (C := Tryz.checked) (s := OpenSpec.ofChange Rows.evalNilSpec) ownP started (by kernel_rfl) Tryz.func3
    (witness_row_at (enc := enc) (C := Tryz.checked) false (laidWorldP os) #[.agg #[.slice none 0 0], .agg #[.slice none 0 0, .slice none 0 0]] rfl (by kernel_rfl) (by kernel_rfl) (by kernel_rfl)
      (OpenSpec.preRow_of_cond 8 hx (by kernel_rfl) (fun k hk => by cases hk) (by kernel_rfl) (laid_metP os))) ?_
  intro W base args ds gs before hval hW _ _ _ hL _ _
  exact contractP H enc W base args ds gs before hval hW hL
theorem evalNil_said : Rows.EvalNilSaid :=
  OpenClaim.holds_of_cond 3 Tryz.f3 rfl rfl rfl rfl rfl rfl rfl ⟨rfl, rfl, rfl, rfl, rfl⟩ rfl rfl rfl rfl rfl (by kernel_rfl) Tryz.func3 (by kernel_rfl)
    (of_decide_eq_true (by kernel_rfl)) (by unfold Func.isWrapper; first | (rw [if_pos (by decide +kernel)]; kernel_rfl) | (rw [if_neg (by decide +kernel)]; exact ⟨rfl, rfl⟩))
    (fun os started H enc _ F => by rw [OpenClaim.pre_eq_preRow]; exact liftedP os started H enc F)
theorem plainCardP (f : FuncId) (fn : Func) (hf : Tryz.pinned.checked.prog.funcNamed "arras/arraslaw13.EvalNil" = some f) (hfn : Tryz.pinned.checked.prog.funcs[f]? = some fn) :
    false = Tryz.pinned.checked.prog.looks [] ∧ ∀ (j : Nat) t, fn.params[j]? = some t → Tryz.pinned.checked.prog.wantsStandIn t = false := by
  obtain rfl : f = 3 := Option.some.inj ((show Tryz.prog.funcNamed "arras/arraslaw13.EvalNil" = some 3 by kernel_rfl).symm.trans hf) |>.symm
  obtain rfl : fn = Tryz.f3 := (Option.some.inj (Tryz.func3.symm.trans hfn)).symm
  refine ⟨by kernel_rfl, fun j t ht => ?_⟩
  rw [Tryz.params3] at ht
  have hm := Array.mem_of_getElem? ht
  simp only [List.mem_toArray, List.mem_cons, List.not_mem_nil, or_false] at hm
  rcases hm with rfl | rfl
  · exact (show Tryz.prog.wantsStandIn 24 = false by kernel_rfl)
  · exact (show Tryz.prog.wantsStandIn 26 = false by kernel_rfl)
/-- EvalNil: for every input the law returns true, and the input reads as before. -/
theorem evalNil_holds : Rows.EvalNilCardSaid :=
  Claim7.holds_tied_plain_at .later [] _ _ _ _ evalNil_said (fun _ h => by cases h) (by kernel_rfl) (fun _ h => by cases h) evalNil_row_tie rfl ⟨rfl, rfl⟩ (by kernel_rfl) rfl plainCardP (by kernel_rfl)
end Go.Proofs.YtipjlnkdfeifkaaGreatDoor

