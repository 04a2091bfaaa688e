import Derived.Test.YtajbngkcgbehlaaKIntervalMost7
/- IL -/
namespace Go.Proofs.Ytajbngkcgbehlaa
open Go.SX Go.ChangeShapes Go.WideShapes Go.ChangeAt Go.RowKit
theorem ownI : ownKnob Try.prog.godebug = none := by kernel_rfl
theorem laidOutI : laidOutB Try.prog = true := by kernel_rfl
theorem opens_ofI {H : Type} {enc : TypeId × Value → H} {P : Program} {w : World} {t : TypeId} {Q : List Value → Prop} {base : Nat} {sp : Nat → Bool} {held : Bool} {v : Value} {d : DataW H} {ps : List MemPlace} (h : Opens P w t Q) (ht : DataW.Trod enc P w base sp held t v d ps) : Q v.cells.toList := by
  obtain ⟨n, hn⟩ := ht
  exact h.out enc base sp held n _ _ hn
theorem wf_backI {x : Int} (h : (Lit.int .i64 x).wf = true) : i64 x := by
  simp [Lit.wf, IntKind.min, IntKind.max, IntKind.signed, IntKind.bits] at h
  unfold i64
  omega
set_option maxRecDepth 100000 in
theorem opens_span (w : World) : Opens Try.prog w 67 fun cs => ∃ s : Sp, cs = [.int .i64 s.1, .int .i64 s.2] ∧ i64 s.1 ∧ i64 s.2 := by
  have h := opens_struct (P := Try.prog) (w := w) (k := 2) (Q := fun _ cs => ∃ i, (Lit.int .i64 i).wf = true ∧ cs = [.int .i64 i]) Try.underlying67 (by kernel_rfl) (by
    intro f hf
    simp only [List.mem_toArray, List.mem_cons, List.not_mem_nil, or_false] at hf
    rcases hf with rfl | rfl
    · exact opens_int Try.underlying3
    · exact opens_int Try.underlying3)
  refine Opens.mono h ?_
  rintro cs ⟨hl, hf⟩
  obtain ⟨a, b, rfl⟩ : ∃ a b, cs = [a, b] := by
    match cs, hl with
    | [a, b], _ => exact ⟨a, b, rfl⟩
  simp only [List.mem_toArray, List.mem_cons, List.not_mem_nil, or_false, forall_eq_or_imp, forall_eq, c_intI, List.drop_zero, List.drop_succ_cons, List.take_succ_cons, List.take_zero] at hf
  obtain ⟨⟨x1, w1, e1⟩, ⟨x2, w2, e2⟩⟩ := hf
  simp only [List.cons.injEq, and_true] at e1 e2
  subst e1 e2
  exact ⟨(x1, x2), rfl, wf_backI w1, wf_backI w2⟩
theorem opens_spans (w : World) : Opens Try.prog w 57 fun cs => ∃ v : SpansV, cs = [v.val] ∧ v.raw w := by
  refine Opens.mono (opens_slice (P := Try.prog) (w := w) (k := 2) Try.underlying57 (by kernel_rfl) (opens_span w)) ?_
  rintro cs ⟨base, cap, xs, rfl, h1, h2, h3, h4, h5⟩
  obtain ⟨l, rfl, hl⟩ := list_map_of (f := fun (s : Sp) => [Value.int .i64 s.1, .int .i64 s.2]) (p := fun s => i64 s.1 ∧ i64 s.2) fun r hr => by
    obtain ⟨_, s, hs, hs'⟩ := h2 r hr
    exact ⟨s, hs', hs⟩
  exact ⟨⟨base, cap, l⟩, by simp [SpansV.val], h1, hl, by simp at h3; show l.length ≤ maxLen; omega⟩
set_option maxRecDepth 100000 in
theorem most_lifted (os : Os) (started : os.Started) (H : Type) (enc : TypeId × Value → H) :
    ReturnsInHanded {} Try.checked os 14 .any (Rows.intervalMostSpec.pre6 enc Try.prog Try.f14 Rows.intervalMostRow.domain false) (Rows.intervalMostSpec.post enc Try.prog Try.f14 false true false false) := by
  refine returnsInHanded_of_change (C := Try.checked) ownI started (by kernel_rfl) Try.func14
    (ChangeSpec.witness6 (enc := enc) (C := Try.checked) false ⟨#[], #[.slice none 0 0], []⟩ 8 (by kernel_rfl) (by kernel_rfl) (by kernel_rfl) (by kernel_rfl)) ?_
  intro W base args ds gs before hval0 hW hcnd _
  have hval : ∀ (j : Nat) t v, Try.f14.params[j]? = some t → args[j]? = some v → Value.okWide Try.prog W .any base t v := hval0
  have hW' := hW
  obtain ⟨p, q, hA0, hV, rfl, hfz, hnd⟩ := hW
  have hA : DataW.TrodAll enc Try.prog W 0 (fun _ => true) true Try.f14.params.toList args.toList ds p := hA0
  rw [Try.params14] at hA hval
  obtain ⟨v0, d0, rfl, rfl, h0⟩ := trodAll_one hA
  obtain ⟨v, hv0, hv⟩ := opens_ofI (opens_spans W) h0
  obtain rfl : v0 = v.val := cells_slice Try.underlying57 (hval 0 57 v0 rfl rfl) hv0
  exact law_contract laidOutI (by kernel_rfl) rfl rfl Try.underlying4 rfl hW' (lawMost_any W v hv)
/-- IntervalMost: for all spans the law returns true, and they read as before; no condition. -/
theorem intervalMost_holds : Rows.IntervalMostSaid :=
  OpenClaim.holds_of_wide 14 Try.f14 rfl rfl rfl rfl rfl rfl rfl ⟨rfl, rfl, rfl, rfl, rfl⟩ rfl rfl rfl rfl rfl (by kernel_rfl) Try.func14 (by kernel_rfl)
    (of_decide_eq_true (by kernel_rfl)) (by unfold Func.isWrapper; first | (rw [if_pos (by decide +kernel)]; kernel_rfl) | (rw [if_neg (by decide +kernel)]; exact ⟨rfl, rfl⟩))
    (fun os started H enc _ => most_lifted os started H enc)
end Go.Proofs.Ytajbngkcgbehlaa
