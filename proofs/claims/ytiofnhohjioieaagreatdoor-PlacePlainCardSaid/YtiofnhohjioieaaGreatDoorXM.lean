import Derived.Test.YtiofnhohjioieaaGreatDoorCards
import Derived.Test.YtiofnhohjioieaaGreatDoorTie
import Derived.ProofKit
import Derived.OpenShut
import Derived.Deep.DeepHandedRow
import Derived.Lib.LaidTab
import Derived.Test.YtiofnhohjioieaaGreatDoorKPlacePlainCard3
/- XM -/
namespace Go.Proofs.YtiofnhohjioieaaGreatDoor
open Go.SX Go.ChangeShapes Go.WideShapes Go.ChangeAt Go.RowKit
/- PlacePlain is proved: the least plain modulus for any numbers is the document's, or refused; for every input, over the table of math/bits as the program's text lays it. -/
theorem ownP : ownKnob Tryz.prog.godebug = none := by kernel_rfl
theorem laidOutP : laidOutB Tryz.prog = true := by kernel_rfl
theorem gTab : Tryz.prog.globalNamed "math/bits.deBruijn64tab" = some 0 := by kernel_rfl
theorem gTabType : (Tryz.prog.globals[0]?).map (·.type) = some 169 := by kernel_rfl
theorem cellsTab : Tryz.prog.cellsOf 169 = 64 := by kernel_rfl
theorem cellsByte : Tryz.prog.cellsOf 5 = 1 := by kernel_rfl
theorem tabIs {W : World} (h : laidMetH Tryz.prog Rows.placePlainRow.laid W) : Lib.TabIs Tryz.prog W "math/bits.deBruijn64tab" .u8 (Lib.deBruijn64tab.map fun (x : Nat) => (x : Int)) :=
  Lib.tabIs_of_head (rest := []) gTab gTabType Tryz.underlying169 Tryz.underlying5 cellsByte cellsTab h
theorem tabW_of {W : World} (h : laidMetH Tryz.prog Rows.placePlainRow.laid W) : TabW W := fun j hj => by
  have hl : Lib.deBruijn64tab.length = 64 := rfl
  have := (tabIs h).cell gTab j (by rw [List.length_map, hl]; exact hj)
  rw [this]
  simp [List.getD_eq_getElem?_getD, List.getElem?_map, List.getElem?_eq_getElem (show j < Lib.deBruijn64tab.length by rw [hl]; exact hj)]
theorem wf_i64P {x : Int} (h : (Lit.int .i64 x).wf = true) : -9223372036854775808 ≤ x ∧ x ≤ 9223372036854775807 := by
  simp [Lit.wf, IntKind.min, IntKind.max, IntKind.signed, IntKind.bits] at h
  omega
theorem opens_ofP {H : Type} {enc : TypeId × Value → H} {P : Program} {w : World} {t : TypeId} {Q : List Value → Prop} {base : Nat} {sp : Nat → Bool} {held : Bool} {v : Value} {d : DataW H} {ps : List MemPlace} (h : Opens P w t Q) (ht : DataW.Trod enc P w base sp held t v d ps) : Q v.cells.toList := by
  obtain ⟨n, hn⟩ := ht
  exact h.out enc base sp held n _ _ hn
set_option maxRecDepth 100000 in
theorem contractP (H : Type) (enc : TypeId × Value → H) (W : World) (base : Nat) (args : Array Value) (ds gs : List (DataW H)) (before : List MemPlace)
    (hval : ∀ (j : Nat) t v, Tryz.f3.params[j]? = some t → args[j]? = some v → Value.okWide Tryz.prog W .any base t v)
    (hW : DataW.Whole enc Tryz.prog Tryz.f3.params.toList Rows.placePlainSpec.vars false W args.toList ds gs before) (hL : laidMetH Tryz.prog Rows.placePlainRow.laid W) :
    Calls Tryz.prog 3 args W fun e W' => ∃ v, e = .returned v ∧ Rows.placePlainSpec.post enc Tryz.prog Tryz.f3 false true false false W args v W' := by
  have hW' := hW
  obtain ⟨p, q, hA0, hV, rfl, hfz, hnd⟩ := hW
  have hA : DataW.TrodAll enc Tryz.prog W 0 (fun _ => true) true Tryz.f3.params.toList args.toList ds p := hA0
  rw [Tryz.params3] at hA hval
  obtain ⟨v0, vs0, d0, ds0, p0, q0, e0, rfl, rfl, h0, r0⟩ := trodAll_cons hA
  obtain ⟨v1, vs1, d1, ds1, p1, q1, rfl, rfl, rfl, h1, r1⟩ := trodAll_cons r0
  obtain ⟨rfl, rfl, rfl⟩ := trodAll_nil r1
  obtain rfl : args = #[v0, v1] := by cases args; simp_all
  obtain ⟨x0, w0, hv0⟩ := opens_ofP (opens_int Tryz.underlying3) h0
  obtain ⟨x1, w1, hv1⟩ := opens_ofP (opens_int Tryz.underlying3) h1
  obtain rfl : v0 = .int .i64 x0 := cells_int Tryz.underlying3 (hval 0 3 v0 rfl rfl) hv0
  obtain rfl : v1 = .int .i64 x1 := cells_int Tryz.underlying3 (hval 1 3 v1 rfl rfl) hv1
  exact law_contract laidOutP (by kernel_rfl) rfl rfl Tryz.underlying4 rfl hW' (lawPlain_any W x0 x1 (wf_i64P w0) (wf_i64P w1) (tabW_of hL))
/-- a world for the witness: the settled one, the table holding what its initialiser lays -/
noncomputable def laidWorldP (os : Os) : World :=
  { World.holding Tryz.prog os ⟨#[], #[], []⟩ with heap := (World.holding Tryz.prog os ⟨#[], #[], []⟩).heap.modify 0 fun
      | .cells _ t frozen => .cells (Lib.deBruijn64tab.map fun (x : Nat) => Value.int .u8 (x : Int)).toArray t frozen
      | o => o }
set_option maxRecDepth 100000 in
theorem laid_metP (os : Os) : laidMet Tryz.prog Rows.placePlainRow.laid ((laidWorldP os).forCall (fun _ _ => 0) ⟨#[], #[.int .i64 0, .int .i64 0], []⟩).memory :=
  laidMet_of_run' 8 (by kernel_rfl) (by kernel_rfl)
set_option maxRecDepth 100000 in
theorem readsP (os : Os) {H : Type} (enc : TypeId × Value → H) : ∃ places, DataW.whole enc Tryz.prog ((laidWorldP os).forCall (fun _ _ => 0) ⟨#[], #[.int .i64 0, .int .i64 0], []⟩).memory Tryz.f3.params.toList Rows.placePlainSpec.vars false #[Value.int .i64 0, Value.int .i64 0].toList 8 = some ([.lit (.int .i64 0), .lit (.int .i64 0)], [], places) :=
  ⟨[], by kernel_rfl⟩
set_option maxRecDepth 100000 in
theorem liftedP (os : Os) (started : os.Started) (H : Type) (enc : TypeId × Value → H) (F : Stop.Interp) :
    ReturnsInHanded {} Tryz.checked os 3 .any ((OpenSpec.ofChange Rows.placePlainSpec).preRow enc Tryz.prog Tryz.f3 Rows.placePlainRow.domain false Rows.placePlainRow.laid) (((OpenSpec.ofChange Rows.placePlainSpec).at F).post enc Tryz.prog Tryz.f3 false true false false) := by
  obtain ⟨places, hx⟩ := readsP os enc
  refine returnsInHanded_of_row (C := Tryz.checked) (s := OpenSpec.ofChange Rows.placePlainSpec) ownP started (by kernel_rfl) Tryz.func3
    (witness_row_at (enc := enc) (C := Tryz.checked) false (laidWorldP os) #[.int .i64 0, .int .i64 0] rfl (by kernel_rfl) (by kernel_rfl) (by kernel_rfl)
      (OpenSpec.preRow_of_cond 8 hx (by kernel_rfl) (fun k hk => by cases hk) (by kernel_rfl) (laid_metP os))) ?_
  intro W base args ds gs before hval hW _ _ _ hL _ _
  exact contractP H enc W base args ds gs before hval hW hL
theorem placePlain_said : Rows.PlacePlainSaid :=
  OpenClaim.holds_of_cond 3 Tryz.f3 rfl rfl rfl rfl rfl rfl rfl ⟨rfl, rfl, rfl, rfl, rfl⟩ rfl rfl rfl rfl rfl (by kernel_rfl) Tryz.func3 (by kernel_rfl)
    (of_decide_eq_true (by kernel_rfl)) (by unfold Func.isWrapper; first | (rw [if_pos (by decide +kernel)]; kernel_rfl) | (rw [if_neg (by decide +kernel)]; exact ⟨rfl, rfl⟩))
    (fun os started H enc _ F => by rw [OpenClaim.pre_eq_preRow]; exact liftedP os started H enc F)
theorem plainCardP (f : FuncId) (fn : Func) (hf : Tryz.pinned.checked.prog.funcNamed "arras/arraslaw22.PlacePlain" = some f) (hfn : Tryz.pinned.checked.prog.funcs[f]? = some fn) :
    false = Tryz.pinned.checked.prog.looks [] ∧ ∀ (j : Nat) t, fn.params[j]? = some t → Tryz.pinned.checked.prog.wantsStandIn t = false := by
  obtain rfl : f = 3 := Option.some.inj ((show Tryz.prog.funcNamed "arras/arraslaw22.PlacePlain" = some 3 by kernel_rfl).symm.trans hf) |>.symm
  obtain rfl : fn = Tryz.f3 := (Option.some.inj (Tryz.func3.symm.trans hfn)).symm
  refine ⟨by kernel_rfl, fun j t ht => ?_⟩
  rw [Tryz.params3] at ht
  obtain rfl : t = 3 := by simpa using Array.mem_of_getElem? ht
  exact (show Tryz.prog.wantsStandIn 3 = false by kernel_rfl)
/-- PlacePlain: for every input the law returns true, and the input reads as before. -/
theorem placePlain_holds : Rows.PlacePlainCardSaid :=
  Claim7.holds_tied_plain_at .later [] _ _ _ _ placePlain_said (fun _ h => by cases h) (by kernel_rfl) (fun _ h => by cases h) placePlain_row_tie rfl ⟨rfl, rfl⟩ (by kernel_rfl) rfl plainCardP (by kernel_rfl)
end Go.Proofs.YtiofnhohjioieaaGreatDoor

