import Derived.Test.YtlcikmddmcdeeaaRO
import Derived.Test.YtlcikmddmcdeeaaRows
namespace Go.Proofs.Ytlcikmddmcdeeaa
open Go.SX Go.ChangeShapes Go.WideShapes Go.ChangeAt Go.RowKit
theorem own : ownKnob Try.prog.godebug = none := by kernel_rfl
theorem laidOut : laidOutB Try.prog = true := by kernel_rfl
theorem wf_i64' {x : Int} (h : (Lit.int .i64 x).wf = true) : i64 x := by
  simp [Lit.wf, IntKind.min, IntKind.max, IntKind.signed, IntKind.bits] at h
  exact ⟨by omega, by omega⟩
theorem opens_of {H : Type} {enc : TypeId × Value → H} {P : Program} {w : World} {t : TypeId} {Q : List Value → Prop} {base : Nat} {sp : Nat → Bool} {held : Bool} {v : Value} {d : DataW H} {ps : List MemPlace} (h : Opens P w t Q) (ht : DataW.Trod enc P w base sp held t v d ps) : Q v.cells.toList := by
  obtain ⟨n, hn⟩ := ht
  exact h.out enc base sp held n _ _ hn
theorem list5 {cs : List Value} (h : cs.length = 5) : ∃ a b c d e, cs = [a, b, c, d, e] := by
  match cs, h with
  | [a, b, c, d, e], _ => exact ⟨a, b, c, d, e, rfl⟩
theorem opens_instr (w : World) : Opens Try.prog w 29 fun cs => ∃ x : InstrV, x.fits ∧ cs = x.cells := by
  have h := opens_struct (P := Try.prog) (w := w) (k := 5) (Q := fun _ cs => ∃ i, (Lit.int .i64 i).wf = true ∧ cs = [.int .i64 i]) Try.underlying29 (by kernel_rfl) (by
    intro f hf
    simp only [List.mem_toArray, List.mem_cons, List.not_mem_nil, or_false] at hf
    rcases hf with rfl | rfl | rfl | rfl | rfl
    all_goals exact opens_int Try.underlying3)
  refine Opens.mono h ?_
  rintro cs ⟨hl, hf⟩
  obtain ⟨a, b, c, d, e, rfl⟩ := list5 hl
  simp only [List.mem_toArray, List.mem_cons, List.not_mem_nil, or_false, forall_eq_or_imp, forall_eq, c_int, List.drop_zero, List.drop_succ_cons, List.take_succ_cons, List.take_zero] at hf
  obtain ⟨⟨x1, w1, e1⟩, ⟨x2, w2, e2⟩, ⟨x3, w3, e3⟩, ⟨x4, w4, e4⟩, ⟨x5, w5, e5⟩⟩ := hf
  simp only [List.cons.injEq, and_true] at e1 e2 e3 e4 e5
  subst e1 e2 e3 e4 e5
  exact ⟨⟨x1, x2, x3, x4, x5⟩, ⟨wf_i64' w1, wf_i64' w2, wf_i64' w3, wf_i64' w4, wf_i64' w5⟩, rfl⟩
theorem opens_code (w : World) : Opens Try.prog w 22 fun cs => ∃ v : CodeV, cs = [v.val] ∧ v.raw w := by
  refine Opens.mono (opens_slice (P := Try.prog) (w := w) (k := 5) Try.underlying22 (by kernel_rfl) (opens_instr w)) ?_
  rintro cs ⟨base, cap, xs, rfl, hr, hx, hc, _⟩
  obtain ⟨l, rfl, hall⟩ := list_map_of (f := InstrV.cells) (p := fun x => x.fits) fun r hr => by obtain ⟨n, hn, hn'⟩ := (hx r hr).2; exact ⟨n, hn, hn'⟩
  rw [List.length_map] at hc ⊢
  exact ⟨⟨base, cap, l⟩, rfl, hr, hall, hc⟩
end Go.Proofs.Ytlcikmddmcdeeaa
