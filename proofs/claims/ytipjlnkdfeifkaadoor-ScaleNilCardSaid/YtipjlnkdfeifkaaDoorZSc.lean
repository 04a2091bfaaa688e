import Derived.Test.YtipjlnkdfeifkaaDoorCards
import Derived.Test.YtipjlnkdfeifkaaDoorTie
import Derived.ProofKit
import Derived.OpenShut
import Derived.Deep.DeepHandedRow
import Derived.Lib.LaidTab
import Derived.Test.YtipjlnkdfeifkaaDoorKScaleNilCard7
/- ZSc -/
namespace Go.Proofs.YtipjlnkdfeifkaaDoor
open Go.SX Go.ChangeShapes Go.WideShapes Go.ChangeAt Go.RowKit
/- ScaleNil is proved: a nil scale answers that it is none; for every input, over the table of math/bits as the program's text lays it. -/
theorem ownP : ownKnob Tryd.prog.godebug = none := by kernel_rfl
theorem laidOutP : laidOutB Tryd.prog = true := by kernel_rfl
theorem gTab : Tryd.prog.globalNamed "math/bits.deBruijn64tab" = some 0 := by kernel_rfl
theorem gTabType : (Tryd.prog.globals[0]?).map (·.type) = some 132 := by kernel_rfl
theorem cellsTab : Tryd.prog.cellsOf 132 = 64 := by kernel_rfl
theorem cellsByte : Tryd.prog.cellsOf 5 = 1 := by kernel_rfl
theorem tabIs {W : World} (h : laidMetH Tryd.prog Rows.scaleNilRow.laid W) : Lib.TabIs Tryd.prog W "math/bits.deBruijn64tab" .u8 (Lib.deBruijn64tab.map fun (x : Nat) => (x : Int)) :=
  Lib.tabIs_of_head (rest := []) gTab gTabType Tryd.underlying132 Tryd.underlying5 cellsByte cellsTab h
theorem tabW_of {W : World} (h : laidMetH Tryd.prog Rows.scaleNilRow.laid W) : TabW W := fun j hj => by
  have hl : Lib.deBruijn64tab.length = 64 := rfl
  have := (tabIs h).cell gTab j (by rw [List.length_map, hl]; exact hj)
  rw [this]
  simp [List.getD_eq_getElem?_getD, List.getElem?_map, List.getElem?_eq_getElem (show j < Lib.deBruijn64tab.length by rw [hl]; exact hj)]
theorem opens_ofP {H : Type} {enc : TypeId × Value → H} {P : Program} {w : World} {t : TypeId} {Q : List Value → Prop} {base : Nat} {sp : Nat → Bool} {held : Bool} {v : Value} {d : DataW H} {ps : List MemPlace} (h : Opens P w t Q) (ht : DataW.Trod enc P w base sp held t v d ps) : Q v.cells.toList := by
  obtain ⟨n, hn⟩ := ht
  exact h.out enc base sp held n _ _ hn
theorem list1P {α : Type} {l : List α} (h : l.length = 1) : ∃ a, l = [a] := by
  match l, h with
  | [a], _ => exact ⟨a, rfl⟩
theorem opens_poly (w : World) : Opens Tryd.prog w 24 fun cs => ∃ b n c, cs = [.slice b n c] := by
  have h1 := opens_slice (P := Tryd.prog) (w := w) (k := 1) Tryd.underlying36 (by kernel_rfl) (opens_int Tryd.underlying35)
  have h2 := opens_slice (P := Tryd.prog) (w := w) (k := 1) Tryd.underlying22 (by kernel_rfl) h1
  have h := opens_struct (P := Tryd.prog) (w := w) (k := 1) (Q := fun _ cs => ∃ b n c, cs = [.slice b n c]) Tryd.underlying24 (by kernel_rfl) (by
    intro f hf
    simp only [List.mem_toArray, List.mem_cons, List.not_mem_nil, or_false] at hf
    subst hf
    exact Opens.mono h2 fun cs ⟨b, c, xs, e, _⟩ => ⟨b, _, c, e⟩)
  refine Opens.mono h ?_
  rintro cs ⟨hl, hf⟩
  obtain ⟨a, rfl⟩ := list1P hl
  have c1 : Tryd.prog.cellsOf 22 = 1 := by kernel_rfl
  simp only [List.mem_toArray, List.mem_cons, List.not_mem_nil, or_false, forall_eq, c1, List.drop_zero, List.take_succ_cons, List.take_zero] at hf
  exact hf
set_option maxRecDepth 100000 in
theorem contractP (H : Type) (enc : TypeId × Value → H) (W : World) (base : Nat) (args : Array Value) (ds gs : List (DataW H)) (before : List MemPlace)
    (hval : ∀ (j : Nat) t v, Tryd.f3.params[j]? = some t → args[j]? = some v → Value.okWide Tryd.prog W .any base t v)
    (hW : DataW.Whole enc Tryd.prog Tryd.f3.params.toList Rows.scaleNilSpec.vars false W args.toList ds gs before) (hL : laidMetH Tryd.prog Rows.scaleNilRow.laid W) :
    Calls Tryd.prog 3 args W fun e W' => ∃ v, e = .returned v ∧ Rows.scaleNilSpec.post enc Tryd.prog Tryd.f3 false true false false W args v W' := by
  have hW' := hW
  obtain ⟨p, q, hA0, hV, rfl, hfz, hnd⟩ := hW
  have hA : DataW.TrodAll enc Tryd.prog W 0 (fun _ => true) true Tryd.f3.params.toList args.toList ds p := hA0
  rw [Tryd.params3] at hA hval
  obtain ⟨v0, vs0, d0, ds0, p0, q0, e0, rfl, rfl, h0, r0⟩ := trodAll_cons hA
  obtain ⟨rfl, rfl, rfl⟩ := trodAll_nil r0
  obtain rfl : args = #[v0] := by cases args; simp_all
  obtain ⟨b, n, c, hv0⟩ := opens_ofP (opens_poly W) h0
  obtain rfl : v0 = .agg #[.slice b n c] := cells_agg Tryd.underlying24 (hval 0 24 v0 rfl rfl) hv0
  exact law_contract laidOutP (by kernel_rfl) rfl rfl Tryd.underlying4 rfl hW' (lawNil_any W b n c (tabW_of hL))
/-- a world for the witness: the settled one, the table holding what its initialiser lays -/
noncomputable def laidWorldP (os : Os) : World :=
  { World.holding Tryd.prog os ⟨#[], #[], []⟩ with heap := (World.holding Tryd.prog os ⟨#[], #[], []⟩).heap.modify 0 fun
      | .cells _ t frozen => .cells (Lib.deBruijn64tab.map fun (x : Nat) => Value.int .u8 (x : Int)).toArray t frozen
      | o => o }
set_option maxRecDepth 100000 in
theorem laid_metP (os : Os) : laidMet Tryd.prog Rows.scaleNilRow.laid ((laidWorldP os).forCall (fun _ _ => 0) ⟨#[], #[.agg #[.slice none 0 0]], []⟩).memory :=
  laidMet_of_run' 8 (by kernel_rfl) (by kernel_rfl)
set_option maxRecDepth 100000 in
theorem readsP (os : Os) {H : Type} (enc : TypeId × Value → H) : ∃ places, DataW.whole enc Tryd.prog ((laidWorldP os).forCall (fun _ _ => 0) ⟨#[], #[.agg #[.slice none 0 0]], []⟩).memory Tryd.f3.params.toList Rows.scaleNilSpec.vars false #[Value.agg #[.slice none 0 0]].toList 8 = some ([.agg [.nil]], [], places) :=
  ⟨[], by kernel_rfl⟩
set_option maxRecDepth 100000 in
theorem liftedP (os : Os) (started : os.Started) (H : Type) (enc : TypeId × Value → H) (F : Stop.Interp) :
    ReturnsInHanded {} Tryd.checked os 3 .any ((OpenSpec.ofChange Rows.scaleNilSpec).preRow enc Tryd.prog Tryd.f3 Rows.scaleNilRow.domain false Rows.scaleNilRow.laid) (((OpenSpec.ofChange Rows.scaleNilSpec).at F).post enc Tryd.prog Tryd.f3 false true false false) := by
  obtain ⟨places, hx⟩ := readsP os enc
  refine returnsInHanded_of_row (C := Tryd.checked) (s := OpenSpec.ofChange Rows.scaleNilSpec) ownP started (by kernel_rfl) Tryd.func3
    (witness_row_at (enc := enc) (C := Tryd.checked) false (laidWorldP os) #[.agg #[.slice none 0 0]] rfl (by kernel_rfl) (by kernel_rfl) (by kernel_rfl)
      (OpenSpec.preRow_of_cond 8 hx (by kernel_rfl) (fun k hk => by cases hk) (by kernel_rfl) (laid_metP os))) ?_
  intro W base args ds gs before hval hW _ _ _ hL _ _
  exact contractP H enc W base args ds gs before hval hW hL
theorem scaleNil_said : Rows.ScaleNilSaid :=
  OpenClaim.holds_of_cond 3 Tryd.f3 rfl rfl rfl rfl rfl rfl rfl ⟨rfl, rfl, rfl, rfl, rfl⟩ rfl rfl rfl rfl rfl (by kernel_rfl) Tryd.func3 (by kernel_rfl)
    (of_decide_eq_true (by kernel_rfl)) (by unfold Func.isWrapper; first | (rw [if_pos (by decide +kernel)]; kernel_rfl) | (rw [if_neg (by decide +kernel)]; exact ⟨rfl, rfl⟩))
    (fun os started H enc _ F => by rw [OpenClaim.pre_eq_preRow]; exact liftedP os started H enc F)
theorem plainCardP (f : FuncId) (fn : Func) (hf : Tryd.pinned.checked.prog.funcNamed "arras/arraslaw10.ScaleNil" = some f) (hfn : Tryd.pinned.checked.prog.funcs[f]? = some fn) :
    false = Tryd.pinned.checked.prog.looks [] ∧ ∀ (j : Nat) t, fn.params[j]? = some t → Tryd.pinned.checked.prog.wantsStandIn t = false := by
  obtain rfl : f = 3 := Option.some.inj ((show Tryd.prog.funcNamed "arras/arraslaw10.ScaleNil" = some 3 by kernel_rfl).symm.trans hf) |>.symm
  obtain rfl : fn = Tryd.f3 := (Option.some.inj (Tryd.func3.symm.trans hfn)).symm
  refine ⟨by kernel_rfl, fun j t ht => ?_⟩
  rw [Tryd.params3] at ht
  obtain rfl : t = 24 := by simpa using Array.mem_of_getElem? ht
  exact (show Tryd.prog.wantsStandIn 24 = false by kernel_rfl)
/-- ScaleNil: for every input the law returns true, and the input reads as before. -/
theorem scaleNil_holds : Rows.ScaleNilCardSaid :=
  Claim7.holds_tied_plain_at .later [] _ _ _ _ scaleNil_said (fun _ h => by cases h) (by kernel_rfl) (fun _ h => by cases h) scaleNil_row_tie rfl ⟨rfl, rfl⟩ (by kernel_rfl) rfl plainCardP (by kernel_rfl)
end Go.Proofs.YtipjlnkdfeifkaaDoor

