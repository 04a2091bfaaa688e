import Derived.Test.YtlcikmddmcdeeaaRO
import Derived.Test.YtlcikmddmcdeeaaRows
namespace Go.Proofs.Ytlcikmddmcdeeaa
open Go.SX Go.ChangeShapes Go.WideShapes Go.ChangeAt Go.RowKit
theorem own : ownKnob Try.prog.godebug = none := by kernel_rfl
theorem laidOut : laidOutB Try.prog = true := by kernel_rfl
theorem wf_i64' {x : Int} (h : (Lit.int .i64 x).wf = true) : i64 x := by
  simp [Lit.wf, IntKind.min, IntKind.max, IntKind.signed, IntKind.bits] at h
  exact ⟨by omega, by omega⟩
theorem opens_of {H : Type} {enc : TypeId × Value → H} {P : Program} {w : World} {t : TypeId} {Q : List Value → Prop} {base : Nat} {sp : Nat → Bool} {held : Bool} {v : Value} {d : DataW H} {ps : List MemPlace} (h : Opens P w t Q) (ht : DataW.Trod enc P w base sp held t v d ps) : Q v.cells.toList := by
  obtain ⟨n, hn⟩ := ht
  exact h.out enc base sp held n _ _ hn
theorem list5 {cs : List Value} (h : cs.length = 5) : ∃ a b c d e, cs = [a, b, c, d, e] := by
  match cs, h with
  | [a, b, c, d, e], _ => exact ⟨a, b, c, d, e, rfl⟩
theorem opens_instr (w : World) : Opens Try.prog w 29 fun cs => ∃ x : InstrV, x.fits ∧ cs = x.cells := by
  have h := opens_struct (P := Try.prog) (w := w) (k := 5) (Q := fun _ cs => ∃ i, (Lit.int .i64 i).wf = true ∧ cs = [.int .i64 i]) Try.underlying29 (by kernel_rfl) (by
    intro f hf
    simp only [List.mem_toArray, List.mem_cons, List.not_mem_nil, or_false] at hf
    rcases hf with rfl | rfl | rfl | rfl | rfl
    all_goals exact opens_int Try.underlying3)
  refine Opens.mono h ?_
  rintro cs ⟨hl, hf⟩
  obtain ⟨a, b, c, d, e, rfl⟩ := list5 hl
  simp only [List.mem_toArray, List.mem_cons, List.not_mem_nil, or_false, forall_eq_or_imp, forall_eq, c_int, List.drop_zero, List.drop_succ_cons, List.take_succ_cons, List.take_zero] at hf
  obtain ⟨⟨x1, w1, e1⟩, ⟨x2, w2, e2⟩, ⟨x3, w3, e3⟩, ⟨x4, w4, e4⟩, ⟨x5, w5, e5⟩⟩ := hf
  simp only [List.cons.injEq, and_true] at e1 e2 e3 e4 e5
  subst e1 e2 e3 e4 e5
  exact ⟨⟨x1, x2, x3, x4, x5⟩, ⟨wf_i64' w1, wf_i64' w2, wf_i64' w3, wf_i64' w4, wf_i64' w5⟩, rfl⟩
theorem opens_code (w : World) : Opens Try.prog w 22 fun cs => ∃ v : CodeV, cs = [v.val] ∧ v.raw w := by
  refine Opens.mono (opens_slice (P := Try.prog) (w := w) (k := 5) Try.underlying22 (by kernel_rfl) (opens_instr w)) ?_
  rintro cs ⟨base, cap, xs, rfl, hr, hx, hc, _⟩
  obtain ⟨l, rfl, hall⟩ := list_map_of (f := InstrV.cells) (p := fun x => x.fits) fun r hr => by obtain ⟨n, hn, hn'⟩ := (hx r hr).2; exact ⟨n, hn, hn'⟩
  rw [List.length_map] at hc ⊢
  exact ⟨⟨base, cap, l⟩, rfl, hr, hall, hc⟩
set_option maxRecDepth 100000 in
theorem takes_lifted (os : Os) (started : os.Started) (H : Type) (enc : TypeId × Value → H) :
    ReturnsInHanded {} Try.checked os 3 .any (Rows.regsTakesSpec.pre6 enc Try.prog Try.f3 Rows.regsTakesRow.domain false) (Rows.regsTakesSpec.post enc Try.prog Try.f3 false true false false) := by
  refine returnsInHanded_of_change (C := Try.checked) own started (by kernel_rfl) Try.func3
    (ChangeSpec.witness6 (enc := enc) (C := Try.checked) false ⟨#[], #[.slice none 0 0], []⟩ 8 (by kernel_rfl) (by kernel_rfl) (by kernel_rfl) (by kernel_rfl)) ?_
  intro W base args ds gs before hval0 hW hcnd _
  have hval : ∀ (j : Nat) t v, Try.f3.params[j]? = some t → args[j]? = some v → Value.okWide Try.prog W .any base t v := hval0
  have hW' := hW
  obtain ⟨p, q, hA0, hV, rfl, hfz, hnd⟩ := hW
  have hA : DataW.TrodAll enc Try.prog W 0 (fun _ => true) true Try.f3.params.toList args.toList ds p := hA0
  rw [Try.params3] at hA hval
  obtain ⟨v0, d0, rfl, rfl, h0⟩ := trodAll_one hA
  obtain ⟨v, hv0, hv⟩ := opens_of (opens_code W) h0
  obtain rfl : v0 = v.val := cells_slice Try.underlying22 (hval 0 22 v0 rfl rfl) hv0
  exact law_contract laidOut (by kernel_rfl) rfl rfl Try.underlying4 rfl hW' (lawTakes_any W v hv)
/-- RegsTakes: for every row of instructions the law returns true, and the row reads as before; no condition. -/
theorem regsTakes_holds : Rows.RegsTakesSaid :=
  OpenClaim.holds_of_wide 3 Try.f3 rfl rfl rfl rfl rfl rfl rfl ⟨rfl, rfl, rfl, rfl, rfl⟩ rfl rfl rfl rfl rfl (by kernel_rfl) Try.func3 (by kernel_rfl)
    (of_decide_eq_true (by kernel_rfl)) (by unfold Func.isWrapper; first | (rw [if_pos (by decide +kernel)]; kernel_rfl) | (rw [if_neg (by decide +kernel)]; exact ⟨rfl, rfl⟩))
    (fun os started H enc _ => takes_lifted os started H enc)
end Go.Proofs.Ytlcikmddmcdeeaa
