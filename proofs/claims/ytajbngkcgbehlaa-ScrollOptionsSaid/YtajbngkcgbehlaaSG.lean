import Derived.Test.YtajbngkcgbehlaaSF
import Derived.DeepKeys
namespace Go.Proofs.Ytajbngkcgbehlaa
open Go.SX Go.RowKit
theorem times_idle (w : World) (b : Nat) (u : RdV) (e n : Int) (f : Value) (h : RdOk 125 w b u e) (hi : n ≤ 0 ∨ e ≠ 0) : Calls Try.prog 61 #[.pointer (some ⟨b, 0, none⟩), .int .i64 n, f] w (RdPost 125 w b u (fun _ : Unit => .tuple #[]) ((), u.bs, e)) := by
  obtain ⟨hs, hby, hrm, hd, hb⟩ := h
  refine calls_of tab tabOk Try.func61 rfl rfl rfl [(0, boxL b)] (fun _ => boxL b) [.lp 0 0 0 0, .c (.int .i64 n), .c f] _ (restA w b) 1 (by simp [SV.rfs, SV.rf, boxL, add_none]) rfl (by show 3 ≤ _; decide) (abs_box hb) ?_
  (repeat' ((conv => whnf) <;> first | (show Wp _ _ _ _ _ _ _; (first | refine Wp.go tabOk rfl ?_ | refine Wp.rounds 1 ?_)) | (show Wp _ _ _ _ _ _ _; (refine Wp.go tabOk rfl ?_)) | (show @cmpK _ _ _; (first | refine cmp_yes (by omega) ?_ | refine cmp_no (by omega) ?_ | (refine cmp_both ?_ ?_ <;> intro _))) | (show wrapK _ _ _; (refine wrap_i64 (by omega) (by omega) ?_)) | (show leK _ _ _; (refine le_of (by first | exact Nat.le_refl _ | omega) ?_)) | (show roomK _ _ _; (refine room_of (by first | omega | (dsimp only; omega)) ?_)) | (show ltK _ _ _; (refine lt_of (by omega) ?_)) | (show _ ∧ _; (refine ⟨?_, ?_⟩)) | (show keepK _ _ _ _ _; (refine keep_of (by first | exact List.Sublist.refl _ | exact List.Sublist.cons _ (List.Sublist.refl _) | exact List.Sublist.cons _ (List.Sublist.cons _ (List.Sublist.refl _)) | exact List.Sublist.cons _ (List.Sublist.cons _ (List.Sublist.cons _ (List.Sublist.refl _)))) (by first | exact (fun _ _ h => h) | exact (fun _ _ h => h.1) | exact (fun _ _ h => h.1.1)) ?_)) | (show ownK _ _ _ _ _; (refine own_keep ?_))))
  all_goals (conv => whnf)
  all_goals exact rd_ends u (SX.Rest.refl hrm) rfl (fun _ => rfl) List.mem_cons_self (fun _ _ h => h)
theorem ry_idle {B : Base} {m i : Nat} {H : Heap} {S : Asn} {nx : Nat} {K : SV → Heap → Asn → Nat → Prop} {u0 u : RdV} {s : List Int × Int} {n : Int} {f : SV} (hn : n ≤ 0 ∨ s.2 ≠ 0) (hi : (i, Ent.box (cs (rcells u s.2)) 125) ∈ H) (h0 : RdBase u0 S) (hr : SX.Rest u0 u) (hbs : u.bs = s.1)
    (h : ∀ u', SX.Rest u0 u' → u'.bs = s.1 → K (.c (.tuple #[])) (setH i (.box (cs (rcells u' s.2)) 125) H) S nx) : callK ⟨Try.prog, B, m, tab⟩ 61 [.lp i 0 0 0, .c (.int .i64 n), f] H S nx K := by
  refine callK_weak (call_box hi Try.call61 (fun x : Unit × RdV × Int => .tuple #[]) (fun x => rcells x.2.1 x.2.2) (fun _ => SX.trueA) (fun x => SX.Rest u x.2.1 ∧ (x.1, x.2.1.bs, x.2.2) = ((), u.bs, s.2)) ?_ (fun x hx => ⟨S, fun _ _ h => h.1, ?_⟩))
  · intro R ρ w' b hw hR hRo hρ hb
    rw [rfs_cs] at hb
    have e : SV.rfs ρ [.lp i 0 0 0, .c (.int .i64 n), f] = [.pointer (some ⟨b, 0, none⟩), .int .i64 n, f.rf ρ] := by simp [SV.rfs, SV.rf, hρ, add_none]
    rw [e]
    exact times_idle w' b u s.2 n (f.rf ρ) ⟨Nat.le_trans hr.len h0.small, hr.bytes h0.bytes, hr.room, (bytsD u).mono (hr.data R w' (h0.data R w' hR)) hRo, hb⟩ hn
  · obtain ⟨v, u', e'⟩ := x
    obtain ⟨h1, h2⟩ := hx
    simp only [Prod.mk.injEq] at h2
    obtain ⟨_, h3, h4⟩ := h2
    subst h4
    exact h u' (hr.trans h1) (h3.trans hbs)
def nilV : RdV := ⟨none, 0, []⟩
theorem nil_in (w : World) : RdIn w nilV := ⟨Nat.zero_le _, fun x hx => (by cases hx), Nat.le_refl _, ⟨fun r hr => (by cases hr), .inl rfl⟩⟩
set_option maxRecDepth 20000 in
theorem readGraph_nil (w : World) : Calls Try.prog 27 #[.slice none 0 0] w fun e w' => e = .returned (.tuple #[.agg #[.slice none 0 0, .int .i64 0], .int .i64 2]) ∧ Ext w w' := by
  have hu := nil_in w
  have h0 := hu.base
  refine calls_of tab tabOk Try.func27 rfl rfl rfl [] (fun _ => ⟨none, 0⟩) [.c (.slice none 0 0)] [] (baseA w) 0 rfl rfl (by show 1 ≤ _; decide) (abs_base w) ?_
  (repeat' ((conv => whnf) <;> first | (show drawK _ 2 _ _ _ _ _ _; (refine draw_quiet tabOk mixed (by kernel_rfl) ?_)) | (show Wp _ _ _ _ _ _ _; (refine Wp.go tabOk rfl ?_)) | (show @cmpK _ _ _; (first | refine cmp_yes (by omega) ?_ | refine cmp_no (by omega) ?_ | (refine cmp_both ?_ ?_ <;> intro _))) | (show wrapK _ _ _; (refine wrap_i64 (by omega) (by omega) ?_)) | (show leK _ _ _; (refine le_of (by first | exact Nat.le_refl _ | omega) ?_)) | (show roomK _ _ _; (refine room_of (by first | omega | (dsimp only; omega)) ?_)) | (show ltK _ _ _; (refine lt_of (by omega) ?_)) | (show _ ∧ _; (refine ⟨?_, ?_⟩)) | (show keepK _ _ _ _ _; (refine keep_of (by first | exact List.Sublist.refl _ | exact List.Sublist.cons _ (List.Sublist.refl _) | exact List.Sublist.cons _ (List.Sublist.cons _ (List.Sublist.refl _)) | exact List.Sublist.cons _ (List.Sublist.cons _ (List.Sublist.cons _ (List.Sublist.refl _)))) (by first | exact (fun _ _ h => h) | exact (fun _ _ h => h.1) | exact (fun _ _ h => h.1.1)) ?_)) | (show ownK _ _ _ _ _; (refine own_keep ?_))))
  refine call_newbox (f := 56) Try.call56 125 (fun x : RdV => rcells x (rdStart 6 (nilV.bs, 0)).2) (fun x => SX.Rest nilV x ∧ x.bs = (rdStart 6 (nilV.bs, 0)).1) (fun ρ w' hw => start_any w' nilV 6 (rd_into h0 hu.room hw)) (fun u1 hx => ?_)
  obtain ⟨hr, hbs⟩ := hx
  (repeat' ((conv => whnf) <;> first | (show drawK _ 2 _ _ _ _ _ _; (refine draw_tree tabOk mixed [] [] (.alt 0 (.alt 1 (.alt 2 (.one 3 (.one 4 (.done))) (.one 3 (.one 2 (.one 4 (.done))))) (.one 3 (.one 1 (.one 2 (.one 4 (.done)))))) (.alt 1 (.alt 0 (.alt 2 (.one 3 (.one 4 (.done))) (.one 3 (.one 2 (.one 4 (.done))))) (.alt 2 (.alt 0 (.one 3 (.one 4 (.done))) (.one 3 (.one 0 (.one 4 (.done))))) (.one 3 (.alt 0 (.one 2 (.one 4 (.done))) (.one 2 (.one 0 (.one 4 (.done)))))))) (.one 3 (.alt 0 (.one 1 (.one 2 (.one 4 (.done)))) (.one 1 (.alt 0 (.one 2 (.one 4 (.done))) (.one 2 (.one 0 (.one 4 (.done)))))))))) (by kernel_rfl) (by kernel_rfl) (by kernel_rfl) (List.nil_sublist _) ?_)) | (show keepK _ _ _ _ _; (refine keep_of (List.nil_sublist _) (fun _ _ h => h) ?_)) | (show callK _ 57 _ _ _ _ _; (refine ry_one (by repeat (first | exact List.mem_cons_self | apply List.mem_cons_of_mem)) h0 hr hbs (fun u hr hbs => ?_))) | (show callK _ 61 _ _ _ _ _; (refine ry_idle (.inr (by decide)) (by repeat (first | exact List.mem_cons_self | apply List.mem_cons_of_mem)) h0 hr hbs (fun u hr hbs => ?_))) | (show callK _ 60 _ _ _ _ _; (refine ry_end (by repeat (first | exact List.mem_cons_self | apply List.mem_cons_of_mem)) h0 hr hbs (fun u hr hbs => ?_))) | (show @cmpK _ _ _; (refine cmp_yes (by decide) ?_)) | (show Wp _ _ _ _ _ _ _; (refine Wp.go tabOk rfl ?_)) | (show @cmpK _ _ _; (first | refine cmp_yes (by omega) ?_ | refine cmp_no (by omega) ?_ | (refine cmp_both ?_ ?_ <;> intro _))) | (show wrapK _ _ _; (refine wrap_i64 (by omega) (by omega) ?_)) | (show leK _ _ _; (refine le_of (by first | exact Nat.le_refl _ | omega) ?_)) | (show roomK _ _ _; (refine room_of (by first | omega | (dsimp only; omega)) ?_)) | (show ltK _ _ _; (refine lt_of (by omega) ?_)) | (show _ ∧ _; (refine ⟨?_, ?_⟩)) | (show keepK _ _ _ _ _; (refine keep_of (by first | exact List.Sublist.refl _ | exact List.Sublist.cons _ (List.Sublist.refl _) | exact List.Sublist.cons _ (List.Sublist.cons _ (List.Sublist.refl _)) | exact List.Sublist.cons _ (List.Sublist.cons _ (List.Sublist.cons _ (List.Sublist.refl _)))) (by first | exact (fun _ _ h => h) | exact (fun _ _ h => h.1) | exact (fun _ _ h => h.1.1)) ?_)) | (show ownK _ _ _ _ _; (refine own_keep ?_))))
  all_goals (conv => whnf)
  all_goals exact ends_of (fun _ _ h => h) (fun _ => rfl) rfl
/-! options held against options -/
theorem wf_of {x : Int} (h : -9223372036854775808 ≤ x ∧ x ≤ 9223372036854775807) : (Lit.int .i64 x).wf = true := by
  simp [Lit.wf, IntKind.min, IntKind.max, IntKind.signed, IntKind.bits]
  exact ⟨h.1, by omega⟩
theorem c_opt : Try.prog.cellsOf 46 = 5 := by kernel_rfl
theorem c_int' : Try.prog.cellsOf 3 = 1 := by kernel_rfl
theorem c_bool : Try.prog.cellsOf 4 = 1 := by kernel_rfl
def OptV.fits (o : OptV) : Prop := (-9223372036854775808 ≤ o.layout ∧ o.layout ≤ 9223372036854775807) ∧ (-9223372036854775808 ≤ o.rows ∧ o.rows ≤ 9223372036854775807)
def OptV.lits (o : OptV) : List Lit := [.int .i64 o.layout, .bool o.tidy, .bool o.lazy_, .bool o.giant, .int .i64 o.rows]
theorem opt_lits (o : OptV) (ho : o.fits) : Try.prog.keyLits 2 46 o.cells = some o.lits := by
  obtain ⟨h1, h2⟩ := ho
  simp [Program.keyLits, Try.underlying46, c_opt, OptV.cells, List.mapM_cons, Try.underlying3, Try.underlying4, c_int', c_bool, wf_of h1, wf_of h2]
  rfl
theorem opt_eql {o : OptV} (ho : o.fits) {ox oy : Operand} {K : SV → Prop} (h : K (.c (.bool true))) : pureK Try.prog (do eqGuard .eql 46 ox oy o.val o.val; binOp .eql 46 o.val o.val) K := by
  rw [pureK_def]
  refine ⟨_, fun w => ?_, h⟩
  have h1 : (eqGuard .eql 46 ox oy o.val o.val).run Try.prog w = .ok () w := by
    have : Try.prog.eqGuardType Try.prog.depth 46 = false := by kernel_rfl
    simp [eqGuard, OptV.val, this]
  obtain ⟨r, h2, h3⟩ := run_equalIn_deep (P := Try.prog) 9998 2 46 (by kernel_rfl) w 2 2 o.val o.val o.lits o.lits (by simp [OptV.val, OptV.cells, Value.formed, Try.underlying46, c_opt]) (by simp [OptV.val, OptV.cells, Value.formed, Try.underlying46, c_opt]) (opt_lits o ho) (opt_lits o ho)
  have hr : r = true := h3.2 rfl
  subst hr
  have h4 : (Op.equal 46 o.val o.val).run Try.prog w = .ok true w := h2
  simp only [Sem.run_bind, h1, Result.andThen_ok]
  simp [OptV.val, binOp] at h4 ⊢
  rw [h4]; rfl
end Go.Proofs.Ytajbngkcgbehlaa
