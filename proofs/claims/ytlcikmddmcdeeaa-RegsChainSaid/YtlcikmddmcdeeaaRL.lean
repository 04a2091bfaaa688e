import Derived.Test.YtlcikmddmcdeeaaRK
import Derived.Test.YtlcikmddmcdeeaaRH
import Derived.DeepKeys
namespace Go.Proofs.Ytlcikmddmcdeeaa
open Go.SX Go.RowKit
theorem c_instr : Try.prog.cellsOf 29 = 5 := by kernel_rfl
theorem c_int : Try.prog.cellsOf 3 = 1 := by kernel_rfl
theorem wf_of {x : Int} (h : i64 x) : (Lit.int .i64 x).wf = true := by
  simp [Lit.wf, IntKind.min, IntKind.max, IntKind.signed, IntKind.bits]
  exact ⟨h.1, by have := h.2; omega⟩
def InstrV.lits (x : InstrV) : List Lit := [.int .i64 x.op, .int .i64 x.to, .int .i64 x.a, .int .i64 x.b, .int .i64 x.k]
theorem instr_lits (x : InstrV) (hx : x.fits) : Try.prog.keyLits 2 29 x.cells = some x.lits := by
  obtain ⟨h1, h2, h3, h4, h5⟩ := hx
  simp [Program.keyLits, Try.underlying29, c_instr, InstrV.cells, List.mapM_cons, Try.underlying3, c_int, wf_of h1, wf_of h2, wf_of h3, wf_of h4, wf_of h5]
  rfl
theorem instr_eq_run (x y : InstrV) (hx : x.fits) (hy : y.fits) (w : World) : (Op.equal 29 x.val y.val).run Try.prog w = .ok (decide (x = y)) w := by
  obtain ⟨r, h1, h2⟩ := run_equalIn_deep (P := Try.prog) 9998 2 29 (by kernel_rfl) w 2 2 x.val y.val x.lits y.lits (by simp [InstrV.val, InstrV.cells, Value.formed, Try.underlying29, c_instr]) (by simp [InstrV.val, InstrV.cells, Value.formed, Try.underlying29, c_instr]) (instr_lits x hx) (instr_lits y hy)
  have e : r = decide (x = y) := by
    have : x.lits = y.lits ↔ x = y := by
      obtain ⟨a, b, c, d, e⟩ := x
      obtain ⟨a', b', c', d', e'⟩ := y
      simp [InstrV.lits]
    rw [this] at h2
    cases r with
    | true => exact (decide_eq_true (h2.1 rfl)).symm
    | false => exact (decide_eq_false (fun h => by have := h2.2 h; cases this)).symm
  rw [← e]; exact h1
theorem noGuard : Try.prog.eqGuardType Try.prog.depth 29 = false := by kernel_rfl
theorem instr_neq {x y : InstrV} (hx : x.fits) (hy : y.fits) {ox oy : Operand} {K : SV → Prop} (h : K (.c (.bool (!decide (x = y))))) : pureK Try.prog (do eqGuard .neq 29 ox oy x.val y.val; binOp .neq 29 x.val y.val) K := by
  rw [pureK_def]
  refine ⟨_, fun w => ?_, h⟩
  have h1 : (eqGuard .neq 29 ox oy x.val y.val).run Try.prog w = .ok () w := by
    simp [eqGuard, InstrV.val, noGuard]
  have h2 := instr_eq_run x y hx hy w
  simp only [Sem.run_bind, h1, Result.andThen_ok]
  simp [InstrV.val, binOp] at h2 ⊢
  rw [h2]; rfl
theorem instr_same {x y : InstrV} (hx : x.fits) (hy : y.fits) (he : x = y) {ox oy : Operand} {K : SV → Prop} (h : K (.c (.bool false))) : pureK Try.prog (do eqGuard .neq 29 ox oy x.val y.val; binOp .neq 29 x.val y.val) K := instr_neq hx hy (by rw [decide_eq_true he]; exact h)
theorem instr_other {x y : InstrV} (hx : x.fits) (hy : y.fits) (he : x ≠ y) {ox oy : Operand} {K : SV → Prop} (h : K (.c (.bool true))) : pureK Try.prog (do eqGuard .neq 29 ox oy x.val y.val; binOp .neq 29 x.val y.val) K := instr_neq hx hy (by rw [decide_eq_false he]; exact h)
theorem take_step {α : Type} {xs ys : List α} {k : Nat} (hx : k < xs.length) (hy : k < ys.length) (h : xs.take k = ys.take k) (he : xs[k] = ys[k]) : xs.take (k + 1) = ys.take (k + 1) := by
  rw [List.take_succ_eq_append_getElem hx, List.take_succ_eq_append_getElem hy, h, he]
theorem sameCode_any (w : World) (u v : CodeV) (hu : u.ok w) (hv : v.ok w) : Calls Try.prog 11 #[u.val, v.val] w fun e w' => e = .returned (.bool (decide (u.l = v.l))) ∧ Ext w w' := by
  refine calls_of tab tabOk Try.func11 rfl rfl rfl [] (fun _ => ⟨none, 0⟩) [.c (.slice u.base u.l.length u.cap), .c (.slice v.base v.l.length v.cap)] [] (baseA w) 0 rfl rfl (by show 2 ≤ _; decide) (abs_base w) ?_
  (repeat' ((conv => whnf) <;> first | (show drawK _ 6 _ _ _ _ _ _; (refine draw_quiet tabOk mixed (by kernel_rfl) ?_)) | (show Wp _ _ _ _ _ _ _; (refine Wp.go tabOk rfl ?_)) | (show @cmpK _ _ _; (first | refine cmp_yes (by omega) ?_ | refine cmp_no (by omega) ?_ | (refine cmp_both ?_ ?_ <;> intro _))) | (show wrapK _ _ _; (refine wrap_i64 (by omega) (by omega) ?_)) | (show leK _ _ _; (refine le_of (by first | exact Nat.le_refl _ | omega) ?_)) | (show roomK _ _ _; (refine room_of (by first | omega | (dsimp only; omega)) ?_)) | (show ltK _ _ _; (refine lt_of (by omega) ?_)) | (show _ ∧ _; (refine ⟨?_, ?_⟩)) | (show keepK _ _ _ _ _; (refine keep_of (by first | exact List.Sublist.refl _ | exact List.Sublist.cons _ (List.Sublist.refl _) | exact List.Sublist.cons _ (List.Sublist.cons _ (List.Sublist.refl _)) | exact List.Sublist.cons _ (List.Sublist.cons _ (List.Sublist.cons _ (List.Sublist.refl _)))) (by first | exact (fun _ _ h => h) | exact (fun _ _ h => h.1) | exact (fun _ _ h => h.1.1)) ?_)) | (show ownK _ _ _ _ _; (refine own_keep ?_))))
  · exact ends_bool (fun _ _ h => h) rfl (decide_eq_false (fun h => by rename_i hne; rw [h] at hne; exact hne rfl))
  rename_i hne
  have hfew := hu.few
  refine Wp.loop (σ := Nat) 0 (fun k => [(0, .c (.slice u.base u.l.length u.cap)), (1, .c (.slice v.base v.l.length v.cap)), (12, .c (.int .i64 u.l.length)), (13, .c (.int .i64 k))]) (fun _ => []) (fun _ => baseA w)
      (fun k => k ≤ u.l.length ∧ u.l.take k = v.l.take k) (fun k => u.l.length - k) 0 [] (Nat.le_refl _) (fun s => ⟨rfl, rfl⟩) ⟨by simp, by simp⟩ ⟨rfl, ⟨rfl, rfl, rfl, rfl, trivial⟩, trivial, fun _ _ h => h⟩ ?_
  rintro k ⟨hk, he⟩
  by_cases hlt : k < u.l.length
  · have hlt2 : k < v.l.length := by omega
    obtain ⟨a, ha⟩ := hu.at hlt
    obtain ⟨b, hb⟩ := hv.at hlt2
    have hur : ∀ R w', (baseA w).holds R w' → RowsI w' (some a) 5 (instrRows u.l) := fun R w' h => ha ▸ rows_base h hu.rows
    have hvr : ∀ R w', (baseA w).holds R w' → RowsI w' (some b) 5 (instrRows v.l) := fun R w' h => hb ▸ rows_base h hv.rows
    rw [ha, hb]
    have hux := hu.fits _ (List.getElem_mem hlt)
    have hvx := hv.fits _ (List.getElem_mem hlt2)
    by_cases hxy : u.l[k] = v.l[k]
    · (repeat' ((conv => whnf) <;> first | (show idxK _ _ _ _ _; (first | refine idx_of a k rfl rfl hlt ?_ | refine idx_of b k rfl rfl hlt2 ?_)) | (show roAggK _ _ _ _; (first | refine roAgg_row hur _ (instrRows_get hlt) rfl ?_ | refine roAgg_row hvr _ (instrRows_get hlt2) rfl ?_)) | (show pureK _ _ _; (refine instr_same hux hvx hxy ?_)) | (show drawK _ 6 _ _ _ _ _ _; (refine draw_quiet tabOk mixed (by kernel_rfl) ?_)) | (show Wp _ _ _ _ _ _ _; (refine Wp.go tabOk rfl ?_)) | (show @cmpK _ _ _; (first | refine cmp_yes (by omega) ?_ | refine cmp_no (by omega) ?_ | (refine cmp_both ?_ ?_ <;> intro _))) | (show wrapK _ _ _; (refine wrap_i64 (by omega) (by omega) ?_)) | (show leK _ _ _; (refine le_of (by first | exact Nat.le_refl _ | omega) ?_)) | (show roomK _ _ _; (refine room_of (by first | omega | (dsimp only; omega)) ?_)) | (show ltK _ _ _; (refine lt_of (by omega) ?_)) | (show _ ∧ _; (refine ⟨?_, ?_⟩)) | (show keepK _ _ _ _ _; (refine keep_of (by first | exact List.Sublist.refl _ | exact List.Sublist.cons _ (List.Sublist.refl _) | exact List.Sublist.cons _ (List.Sublist.cons _ (List.Sublist.refl _)) | exact List.Sublist.cons _ (List.Sublist.cons _ (List.Sublist.cons _ (List.Sublist.refl _)))) (by first | exact (fun _ _ h => h) | exact (fun _ _ h => h.1) | exact (fun _ _ h => h.1.1)) ?_)) | (show ownK _ _ _ _ _; (refine own_keep ?_))))
      conv => whnf
      exact ⟨k + 1, [], ⟨hlt, take_step hlt hlt2 he hxy⟩, by omega, rfl, ⟨rfl, rfl, rfl, rfl, trivial⟩, trivial, fun _ _ h => h⟩
    · (repeat' ((conv => whnf) <;> first | (show idxK _ _ _ _ _; (first | refine idx_of a k rfl rfl hlt ?_ | refine idx_of b k rfl rfl hlt2 ?_)) | (show roAggK _ _ _ _; (first | refine roAgg_row hur _ (instrRows_get hlt) rfl ?_ | refine roAgg_row hvr _ (instrRows_get hlt2) rfl ?_)) | (show pureK _ _ _; (refine instr_other hux hvx hxy ?_)) | (show drawK _ 6 _ _ _ _ _ _; (refine draw_quiet tabOk mixed (by kernel_rfl) ?_)) | (show Wp _ _ _ _ _ _ _; (refine Wp.go tabOk rfl ?_)) | (show @cmpK _ _ _; (first | refine cmp_yes (by omega) ?_ | refine cmp_no (by omega) ?_ | (refine cmp_both ?_ ?_ <;> intro _))) | (show wrapK _ _ _; (refine wrap_i64 (by omega) (by omega) ?_)) | (show leK _ _ _; (refine le_of (by first | exact Nat.le_refl _ | omega) ?_)) | (show roomK _ _ _; (refine room_of (by first | omega | (dsimp only; omega)) ?_)) | (show ltK _ _ _; (refine lt_of (by omega) ?_)) | (show _ ∧ _; (refine ⟨?_, ?_⟩)) | (show keepK _ _ _ _ _; (refine keep_of (by first | exact List.Sublist.refl _ | exact List.Sublist.cons _ (List.Sublist.refl _) | exact List.Sublist.cons _ (List.Sublist.cons _ (List.Sublist.refl _)) | exact List.Sublist.cons _ (List.Sublist.cons _ (List.Sublist.cons _ (List.Sublist.refl _)))) (by first | exact (fun _ _ h => h) | exact (fun _ _ h => h.1) | exact (fun _ _ h => h.1.1)) ?_)) | (show ownK _ _ _ _ _; (refine own_keep ?_))))
      exact ends_bool (fun _ _ h => h) rfl (decide_eq_false (fun h => hxy (by simp only [h])))
  · have hkl : u.l = v.l := by rw [List.take_of_length_le (by omega), List.take_of_length_le (by omega)] at he; exact he
    (repeat' ((conv => whnf) <;> first | (show drawK _ 6 _ _ _ _ _ _; (refine draw_quiet tabOk mixed (by kernel_rfl) ?_)) | (show Wp _ _ _ _ _ _ _; (refine Wp.go tabOk rfl ?_)) | (show @cmpK _ _ _; (first | refine cmp_yes (by omega) ?_ | refine cmp_no (by omega) ?_ | (refine cmp_both ?_ ?_ <;> intro _))) | (show wrapK _ _ _; (refine wrap_i64 (by omega) (by omega) ?_)) | (show leK _ _ _; (refine le_of (by first | exact Nat.le_refl _ | omega) ?_)) | (show roomK _ _ _; (refine room_of (by first | omega | (dsimp only; omega)) ?_)) | (show ltK _ _ _; (refine lt_of (by omega) ?_)) | (show _ ∧ _; (refine ⟨?_, ?_⟩)) | (show keepK _ _ _ _ _; (refine keep_of (by first | exact List.Sublist.refl _ | exact List.Sublist.cons _ (List.Sublist.refl _) | exact List.Sublist.cons _ (List.Sublist.cons _ (List.Sublist.refl _)) | exact List.Sublist.cons _ (List.Sublist.cons _ (List.Sublist.cons _ (List.Sublist.refl _)))) (by first | exact (fun _ _ h => h) | exact (fun _ _ h => h.1) | exact (fun _ _ h => h.1.1)) ?_)) | (show ownK _ _ _ _ _; (refine own_keep ?_))))
    exact ends_bool (fun _ _ h => h) rfl (decide_eq_true hkl)
end Go.Proofs.Ytlcikmddmcdeeaa
