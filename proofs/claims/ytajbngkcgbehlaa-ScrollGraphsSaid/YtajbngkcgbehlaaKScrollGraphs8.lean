import Derived.DeepKeys
import Derived.Test.YtajbngkcgbehlaaKScrollGraphs7
/- SG -/
namespace Go.Proofs.Ytajbngkcgbehlaa
open Go.SX Go.RowKit
theorem times_idle (w : World) (b : Nat) (u : RdV) (e n : Int) (f : Value) (h : RdOk 125 w b u e) (hi : n ≤ 0 ∨ e ≠ 0) : Calls Try.prog 61 #[.pointer (some ⟨b, 0, none⟩), .int .i64 n, f] w (RdPost 125 w b u (fun _ : Unit => .tuple #[]) ((), u.bs, e)) := by
  obtain ⟨hs, hby, hrm, hd, hb⟩ := h
  refine calls_of tab tabOk Try.func61 rfl rfl rfl [(0, boxL b)] (fun _ => boxL b) [.lp 0 0 0 0, .c (.int .i64 n), .c f] _ (restA w b) 1 (by simp [SV.rfs, SV.rf, boxL, add_none]) rfl (by show 3 ≤ _; decide) (abs_box hb) ?_
  (repeat' ((conv => whnf) <;> first | (show Wp _ _ _ _ _ _ _; (first | refine Wp.go tabOk rfl ?_ | refine Wp.rounds 1 ?_)) | (show Wp _ _ _ _ _ _ _; (refine Wp.go tabOk rfl ?_)) | (show @cmpK _ _ _; (first | refine cmp_yes (by omega) ?_ | refine cmp_no (by omega) ?_ | (refine cmp_both ?_ ?_ <;> intro _))) | (show wrapK _ _ _; (refine wrap_i64 (by omega) (by omega) ?_)) | (show leK _ _ _; (refine le_of (by first | exact Nat.le_refl _ | omega) ?_)) | (show roomK _ _ _; (refine room_of (by first | omega | (dsimp only; omega)) ?_)) | (show ltK _ _ _; (refine lt_of (by omega) ?_)) | (show _ ∧ _; (refine ⟨?_, ?_⟩)) | (show keepK _ _ _ _ _; (refine keep_of (by first | exact List.Sublist.refl _ | exact List.Sublist.cons _ (List.Sublist.refl _) | exact List.Sublist.cons _ (List.Sublist.cons _ (List.Sublist.refl _)) | exact List.Sublist.cons _ (List.Sublist.cons _ (List.Sublist.cons _ (List.Sublist.refl _)))) (by first | exact (fun _ _ h => h) | exact (fun _ _ h => h.1) | exact (fun _ _ h => h.1.1)) ?_)) | (show ownK _ _ _ _ _; (refine own_keep ?_))))
  all_goals (conv => whnf)
  all_goals exact rd_ends u (SX.Rest.refl hrm) rfl (fun _ => rfl) List.mem_cons_self (fun _ _ h => h)
theorem ry_idle {B : Base} {m i : Nat} {H : Heap} {S : Asn} {nx : Nat} {K : SV → Heap → Asn → Nat → Prop} {u0 u : RdV} {s : List Int × Int} {n : Int} {f : SV} (hn : n ≤ 0 ∨ s.2 ≠ 0) (hi : (i, Ent.box (cs (rcells u s.2)) 125) ∈ H) (h0 : RdBase u0 S) (hr : SX.Rest u0 u) (hbs : u.bs = s.1)
    (h : ∀ u', SX.Rest u0 u' → u'.bs = s.1 → K (.c (.tuple #[])) (setH i (.box (cs (rcells u' s.2)) 125) H) S nx) : callK ⟨Try.prog, B, m, tab⟩ 61 [.lp i 0 0 0, .c (.int .i64 n), f] H S nx K := by
  refine callK_weak (call_box hi Try.call61 (fun x : Unit × RdV × Int => .tuple #[]) (fun x => rcells x.2.1 x.2.2) (fun _ => SX.trueA) (fun x => SX.Rest u x.2.1 ∧ (x.1, x.2.1.bs, x.2.2) = ((), u.bs, s.2)) ?_ (fun x hx => ⟨S, fun _ _ h => h.1, ?_⟩))
  · intro R ρ w' b hw hR hRo hρ hb
    rw [rfs_cs] at hb
    have e : SV.rfs ρ [.lp i 0 0 0, .c (.int .i64 n), f] = [.pointer (some ⟨b, 0, none⟩), .int .i64 n, f.rf ρ] := by simp [SV.rfs, SV.rf, hρ, add_none]
    rw [e]
    exact times_idle w' b u s.2 n (f.rf ρ) ⟨Nat.le_trans hr.len h0.small, hr.bytes h0.bytes, hr.room, (bytsD u).mono (hr.data R w' (h0.data R w' hR)) hRo, hb⟩ hn
  · obtain ⟨v, u', e'⟩ := x
    obtain ⟨h1, h2⟩ := hx
    simp only [Prod.mk.injEq] at h2
    obtain ⟨_, h3, h4⟩ := h2
    subst h4
    exact h u' (hr.trans h1) (h3.trans hbs)
def nilV : RdV := ⟨none, 0, []⟩
theorem nil_in (w : World) : RdIn w nilV := ⟨Nat.zero_le _, fun x hx => (by cases hx), Nat.le_refl _, ⟨fun r hr => (by cases hr), .inl rfl⟩⟩
set_option maxRecDepth 20000 in
theorem readGraph_nil (w : World) : Calls Try.prog 27 #[.slice none 0 0] w fun e w' => e = .returned (.tuple #[.agg #[.slice none 0 0, .int .i64 0], .int .i64 2]) ∧ Ext w w' := by
  have hu := nil_in w
  have h0 := hu.base
  refine calls_of tab tabOk Try.func27 rfl rfl rfl [] (fun _ => ⟨none, 0⟩) [.c (.slice none 0 0)] [] (baseA w) 0 rfl rfl (by show 1 ≤ _; decide) (abs_base w) ?_
  (repeat' ((conv => whnf) <;> first | (show drawK _ 2 _ _ _ _ _ _; (refine draw_quiet tabOk mixed (by kernel_rfl) ?_)) | (show Wp _ _ _ _ _ _ _; (refine Wp.go tabOk rfl ?_)) | (show @cmpK _ _ _; (first | refine cmp_yes (by omega) ?_ | refine cmp_no (by omega) ?_ | (refine cmp_both ?_ ?_ <;> intro _))) | (show wrapK _ _ _; (refine wrap_i64 (by omega) (by omega) ?_)) | (show leK _ _ _; (refine le_of (by first | exact Nat.le_refl _ | omega) ?_)) | (show roomK _ _ _; (refine room_of (by first | omega | (dsimp only; omega)) ?_)) | (show ltK _ _ _; (refine lt_of (by omega) ?_)) | (show _ ∧ _; (refine ⟨?_, ?_⟩)) | (show keepK _ _ _ _ _; (refine keep_of (by first | exact List.Sublist.refl _ | exact List.Sublist.cons _ (List.Sublist.refl _) | exact List.Sublist.cons _ (List.Sublist.cons _ (List.Sublist.refl _)) | exact List.Sublist.cons _ (List.Sublist.cons _ (List.Sublist.cons _ (List.Sublist.refl _)))) (by first | exact (fun _ _ h => h) | exact (fun _ _ h => h.1) | exact (fun _ _ h => h.1.1)) ?_)) | (show ownK _ _ _ _ _; (refine own_keep ?_))))
  refine call_newbox (f := 56) Try.call56 125 (fun x : RdV => rcells x (rdStart 6 (nilV.bs, 0)).2) (fun x => SX.Rest nilV x ∧ x.bs = (rdStart 6 (nilV.bs, 0)).1) (fun ρ w' hw => start_any w' nilV 6 (rd_into h0 hu.room hw)) (fun u1 hx => ?_)
  obtain ⟨hr, hbs⟩ := hx
  (repeat' ((conv => whnf) <;> first | (show drawK _ 2 _ _ _ _ _ _; (refine draw_tree tabOk mixed [] [] (.alt 0 (.alt 1 (.alt 2 (.one 3 (.one 4 (.done))) (.one 3 (.one 2 (.one 4 (.done))))) (.one 3 (.one 1 (.one 2 (.one 4 (.done)))))) (.alt 1 (.alt 0 (.alt 2 (.one 3 (.one 4 (.done))) (.one 3 (.one 2 (.one 4 (.done))))) (.alt 2 (.alt 0 (.one 3 (.one 4 (.done))) (.one 3 (.one 0 (.one 4 (.done))))) (.one 3 (.alt 0 (.one 2 (.one 4 (.done))) (.one 2 (.one 0 (.one 4 (.done)))))))) (.one 3 (.alt 0 (.one 1 (.one 2 (.one 4 (.done)))) (.one 1 (.alt 0 (.one 2 (.one 4 (.done))) (.one 2 (.one 0 (.one 4 (.done)))))))))) (by kernel_rfl) (by kernel_rfl) (by kernel_rfl) (List.nil_sublist _) ?_)) | (show keepK _ _ _ _ _; (refine keep_of (List.nil_sublist _) (fun _ _ h => h) ?_)) | (show callK _ 57 _ _ _ _ _; (refine ry_one (by repeat (first | exact List.mem_cons_self | apply List.mem_cons_of_mem)) h0 hr hbs (fun u hr hbs => ?_))) | (show callK _ 61 _ _ _ _ _; (refine ry_idle (.inr (by decide)) (by repeat (first | exact List.mem_cons_self | apply List.mem_cons_of_mem)) h0 hr hbs (fun u hr hbs => ?_))) | (show callK _ 60 _ _ _ _ _; (refine ry_end (by repeat (first | exact List.mem_cons_self | apply List.mem_cons_of_mem)) h0 hr hbs (fun u hr hbs => ?_))) | (show @cmpK _ _ _; (refine cmp_yes (by decide) ?_)) | (show Wp _ _ _ _ _ _ _; (refine Wp.go tabOk rfl ?_)) | (show @cmpK _ _ _; (first | refine cmp_yes (by omega) ?_ | refine cmp_no (by omega) ?_ | (refine cmp_both ?_ ?_ <;> intro _))) | (show wrapK _ _ _; (refine wrap_i64 (by omega) (by omega) ?_)) | (show leK _ _ _; (refine le_of (by first | exact Nat.le_refl _ | omega) ?_)) | (show roomK _ _ _; (refine room_of (by first | omega | (dsimp only; omega)) ?_)) | (show ltK _ _ _; (refine lt_of (by omega) ?_)) | (show _ ∧ _; (refine ⟨?_, ?_⟩)) | (show keepK _ _ _ _ _; (refine keep_of (by first | exact List.Sublist.refl _ | exact List.Sublist.cons _ (List.Sublist.refl _) | exact List.Sublist.cons _ (List.Sublist.cons _ (List.Sublist.refl _)) | exact List.Sublist.cons _ (List.Sublist.cons _ (List.Sublist.cons _ (List.Sublist.refl _)))) (by first | exact (fun _ _ h => h) | exact (fun _ _ h => h.1) | exact (fun _ _ h => h.1.1)) ?_)) | (show ownK _ _ _ _ _; (refine own_keep ?_))))
  all_goals (conv => whnf)
  all_goals exact ends_of (fun _ _ h => h) (fun _ => rfl) rfl
/-! options held against options -/
theorem wf_of {x : Int} (h : -9223372036854775808 ≤ x ∧ x ≤ 9223372036854775807) : (Lit.int .i64 x).wf = true := by
  simp [Lit.wf, IntKind.min, IntKind.max, IntKind.signed, IntKind.bits]
  exact ⟨h.1, by omega⟩
theorem c_opt : Try.prog.cellsOf 46 = 5 := by kernel_rfl
theorem c_int' : Try.prog.cellsOf 3 = 1 := by kernel_rfl
theorem c_bool : Try.prog.cellsOf 4 = 1 := by kernel_rfl
def OptV.fits (o : OptV) : Prop := (-9223372036854775808 ≤ o.layout ∧ o.layout ≤ 9223372036854775807) ∧ (-9223372036854775808 ≤ o.rows ∧ o.rows ≤ 9223372036854775807)
def OptV.lits (o : OptV) : List Lit := [.int .i64 o.layout, .bool o.tidy, .bool o.lazy_, .bool o.giant, .int .i64 o.rows]
theorem opt_lits (o : OptV) (ho : o.fits) : Try.prog.keyLits 2 46 o.cells = some o.lits := by
  obtain ⟨h1, h2⟩ := ho
  simp [Program.keyLits, Try.underlying46, c_opt, OptV.cells, List.mapM_cons, Try.underlying3, Try.underlying4, c_int', c_bool, wf_of h1, wf_of h2]
  rfl
theorem opt_eql {o : OptV} (ho : o.fits) {ox oy : Operand} {K : SV → Prop} (h : K (.c (.bool true))) : pureK Try.prog (do eqGuard .eql 46 ox oy o.val o.val; binOp .eql 46 o.val o.val) K := by
  rw [pureK_def]
  refine ⟨_, fun w => ?_, h⟩
  have h1 : (eqGuard .eql 46 ox oy o.val o.val).run Try.prog w = .ok () w := by
    have : Try.prog.eqGuardType Try.prog.depth 46 = false := by kernel_rfl
    simp [eqGuard, OptV.val, this]
  obtain ⟨r, h2, h3⟩ := run_equalIn_deep (P := Try.prog) 9998 2 46 (by kernel_rfl) w 2 2 o.val o.val o.lits o.lits (by simp [OptV.val, OptV.cells, Value.formed, Try.underlying46, c_opt]) (by simp [OptV.val, OptV.cells, Value.formed, Try.underlying46, c_opt]) (opt_lits o ho) (opt_lits o ho)
  have hr : r = true := h3.2 rfl
  subst hr
  have h4 : (Op.equal 46 o.val o.val).run Try.prog w = .ok true w := h2
  simp only [Sem.run_bind, h1, Result.andThen_ok]
  simp [OptV.val, binOp] at h4 ⊢
  rw [h4]; rfl
end Go.Proofs.Ytajbngkcgbehlaa
/- SH -/
namespace Go.Proofs.Ytajbngkcgbehlaa
open Go.SX Go.RowKit
theorem readOpt_write {o : OptV} (ho : o.good) : readOpt (optBytes o) = (o, 0) := by
  obtain ⟨l, t, z, g, r⟩ := o
  obtain ⟨h1, h2, h3, h4⟩ := ho
  simp only at h1 h2 h3 h4
  have e1 : (0 * 256 + r / 256 % 256) * 256 + r / 1 % 256 = r := by omega
  have e0 : (0 : Int) * 256 + l = l := by omega
  cases t <;> cases z <;> cases g <;>
    simp [readOpt, optZ, optR, optD, optC, optB, optA, rdStart, rdNum, rdFail, rdTruth, rdEnd, valB, optBytes, beL, bitI] <;> omega
theorem call_opts {B : Base} {m : Nat} {f : FuncId} {H : Heap} {S : Asn} {nx : Nat} {K : SV → Heap → Asn → Nat → Prop} {args : List SV} {o : OptV} (ho : o.good) (ha : ∀ ρ, SV.rfs ρ args = [o.val]) (hf : ∀ ar w, (callFunc f ar).run Try.prog w = .ok (.enter f ar) w)
    (hc : ∀ w, Calls Try.prog f #[o.val] w (OptPost w o))
    (h : ∀ x : RdV, x.bs = optBytes o → x.bs.length ≤ x.cap → K (.c (.tuple #[x.val, .int .i64 0])) H (S.and ((bytsD x).past B.w0.heap.size)) nx) : callK ⟨Try.prog, B, m, tab⟩ f args H S nx K := by
  refine call_past hf (fun x : RdV => .tuple #[x.val, .int .i64 0]) (fun x => bytsD x) (fun x => x.bs = optBytes o ∧ x.bs.length ≤ x.cap) (fun ρ w hw => ?_) (fun x hx => h x hx.1 hx.2)
  rw [ha ρ]
  refine (hc w).mono ?_
  rintro e w' (⟨_, v, rfl, he, hn⟩ | ⟨hb, _⟩)
  · have hcap : ∃ l : SX.Loc, v = .slice l.base (byts (optBytes o)).length l.cap ∧ (byts (optBytes o)).length ≤ l.cap := by
      obtain ⟨l, e, F, hF, hr, hc, _⟩ := id hn
      exact ⟨l, e, hc⟩
    obtain ⟨base, cap, e1, hD⟩ := newRows_data hn
    obtain ⟨l, e2, hc⟩ := hcap
    rw [e1] at e2
    simp only [Value.slice.injEq] at e2
    rw [byts_length] at hc e1
    exact ⟨⟨base, cap, optBytes o⟩, ⟨rfl, by show (optBytes o).length ≤ cap; rw [e2.2.2]; exact hc⟩, by rw [e1]; rfl, he, hD⟩
  · exact absurd ho hb
theorem optBytes_ok {o : OptV} (ho : o.good) : (∀ x ∈ optBytes o, 0 ≤ x ∧ x ≤ 255) ∧ (optBytes o).length ≤ 1000000 := by
  obtain ⟨h1, h2, h3, h4⟩ := ho
  have hb : ∀ b : Bool, 0 ≤ bitI b ∧ bitI b ≤ 255 := fun b => by cases b <;> decide
  refine ⟨fun x hx => ?_, by show 7 ≤ 1000000; decide⟩
  rcases List.mem_append.1 hx with hx | hx
  · simp only [List.mem_cons, List.not_mem_nil, or_false] at hx
    rcases hx with rfl | rfl | rfl | rfl | rfl
    · decide
    · exact ⟨h1, h2⟩
    · exact hb _
    · exact hb _
    · exact hb _
  · exact beL_byte _ _ x hx
theorem opts_base {o : OptV} (ho : o.good) {x : RdV} (hx : x.bs = optBytes o) {S : Asn} {N : Nat} : RdBase x (S.and ((bytsD x).past N)) := ⟨by rw [hx]; exact (optBytes_ok ho).2, by rw [hx]; exact (optBytes_ok ho).1, fun R w h => (bytsD x).stable (fun b hb => hb.1) (fun _ _ => rfl) h.2⟩
def o0 : OptV := ⟨1, false, false, true, 16⟩
theorem o0_good : o0.good := by unfold OptV.good o0; decide
theorem o0_fits : o0.fits := by unfold OptV.fits o0; decide
set_option maxRecDepth 20000 in
theorem scrollFixed_any (w : World) : Calls Try.prog 23 #[] w fun e w' => e = .returned (.bool true) ∧ Ext w w' := by
  refine calls_of tab tabOk Try.func23 rfl rfl rfl [] (fun _ => ⟨none, 0⟩) [] [] (baseA w) 0 rfl rfl (by show 0 ≤ _; decide) (abs_base w) ?_
  (repeat' ((conv => whnf) <;> first | (show Wp _ _ _ _ _ _ _; (refine Wp.go tabOk rfl ?_)) | (show @cmpK _ _ _; (first | refine cmp_yes (by omega) ?_ | refine cmp_no (by omega) ?_ | (refine cmp_both ?_ ?_ <;> intro _))) | (show wrapK _ _ _; (refine wrap_i64 (by omega) (by omega) ?_)) | (show leK _ _ _; (refine le_of (by first | exact Nat.le_refl _ | omega) ?_)) | (show roomK _ _ _; (refine room_of (by first | omega | (dsimp only; omega)) ?_)) | (show ltK _ _ _; (refine lt_of (by omega) ?_)) | (show _ ∧ _; (refine ⟨?_, ?_⟩)) | (show keepK _ _ _ _ _; (refine keep_of (by first | exact List.Sublist.refl _ | exact List.Sublist.cons _ (List.Sublist.refl _) | exact List.Sublist.cons _ (List.Sublist.cons _ (List.Sublist.refl _)) | exact List.Sublist.cons _ (List.Sublist.cons _ (List.Sublist.cons _ (List.Sublist.refl _)))) (by first | exact (fun _ _ h => h) | exact (fun _ _ h => h.1) | exact (fun _ _ h => h.1.1)) ?_)) | (show ownK _ _ _ _ _; (refine own_keep ?_))))
  refine call_opts (o := o0) o0_good (fun _ => rfl) Try.call24 (fun w => options_any w o0) (fun x hx hcap => ?_)
  have h0 : RdBase x ((baseA w).and ((bytsD x).past w.heap.size)) := opts_base o0_good hx
  have hrd : readOpt x.bs = (o0, 0) := by rw [hx]; exact readOpt_write o0_good
  have hRd : ∀ ρ (w' : World), Abs ⟨w, []⟩ ρ 0 [] ((baseA w).and ((bytsD x).past w.heap.size)) w' → Calls Try.prog 26 #[x.val] w' (fun e w'' => e = .returned (.tuple #[o0.val, .int .i64 0]) ∧ Ext w' w'') := fun ρ w' hw => by
    have := readOptions_any w' x (rd_into h0 hcap hw)
    unfold ROPost at this
    rw [hrd] at this
    exact this
  (repeat' ((conv => whnf) <;> first | (show callK _ 26 _ _ _ _ _; (refine call_pure (f := 26) Try.call26 _ (fun ρ w' hw => hRd ρ w' hw) ?_)) | (show callK _ 27 _ _ _ _ _; (refine call_pure (f := 27) Try.call27 _ (fun ρ w' hw => readGraph_nil w') ?_)) | (show strK _ _ _ _ _ _ _; (first | refine str_ro (bs := optBytes o0) Try.underlying35 Try.underlying5 Try.underlying9 (fun R w' h => hx ▸ rowsA_in (h0.data R w' h)) (by rw [hx]) ?_)) | (show pureK _ _ _; (first | refine str_eql (by kernel_rfl) ?_ | refine opt_eql (o := o0) o0_fits ?_)) | (show Wp _ _ _ _ _ _ _; (refine Wp.go tabOk rfl ?_)) | (show @cmpK _ _ _; (first | refine cmp_yes (by omega) ?_ | refine cmp_no (by omega) ?_ | (refine cmp_both ?_ ?_ <;> intro _))) | (show wrapK _ _ _; (refine wrap_i64 (by omega) (by omega) ?_)) | (show leK _ _ _; (refine le_of (by first | exact Nat.le_refl _ | omega) ?_)) | (show roomK _ _ _; (refine room_of (by first | omega | (dsimp only; omega)) ?_)) | (show ltK _ _ _; (refine lt_of (by omega) ?_)) | (show _ ∧ _; (refine ⟨?_, ?_⟩)) | (show keepK _ _ _ _ _; (refine keep_of (by first | exact List.Sublist.refl _ | exact List.Sublist.cons _ (List.Sublist.refl _) | exact List.Sublist.cons _ (List.Sublist.cons _ (List.Sublist.refl _)) | exact List.Sublist.cons _ (List.Sublist.cons _ (List.Sublist.cons _ (List.Sublist.refl _)))) (by first | exact (fun _ _ h => h) | exact (fun _ _ h => h.1) | exact (fun _ _ h => h.1.1)) ?_)) | (show ownK _ _ _ _ _; (refine own_keep ?_))))
  conv => whnf
  exact ends_bool (fun R w' h => h.1) rfl rfl
set_option maxRecDepth 20000 in
theorem lawOptions_any (w : World) (o : OptV) (ho : o.fits) : Calls Try.prog 7 #[o.val] w fun e w' => e = .returned (.bool true) ∧ Ext w w' := by
  refine calls_of tab tabOk Try.func7 rfl rfl rfl [] (fun _ => ⟨none, 0⟩) [.agg [.c (.int .i64 o.layout), .c (.bool o.tidy), .c (.bool o.lazy_), .c (.bool o.giant), .c (.int .i64 o.rows)]] [] (baseA w) 0 rfl rfl (by show 1 ≤ _; decide) (abs_base w) ?_
  by_cases hg : o.good
  · (repeat' ((conv => whnf) <;> first | (show callK _ 23 _ _ _ _ _; (refine call_pure (f := 23) Try.call23 (.bool true) (fun ρ w' hw => scrollFixed_any w') ?_)) | (show Wp _ _ _ _ _ _ _; (refine Wp.go tabOk rfl ?_)) | (show @cmpK _ _ _; (first | refine cmp_yes (by omega) ?_ | refine cmp_no (by omega) ?_ | (refine cmp_both ?_ ?_ <;> intro _))) | (show wrapK _ _ _; (refine wrap_i64 (by omega) (by omega) ?_)) | (show leK _ _ _; (refine le_of (by first | exact Nat.le_refl _ | omega) ?_)) | (show roomK _ _ _; (refine room_of (by first | omega | (dsimp only; omega)) ?_)) | (show ltK _ _ _; (refine lt_of (by omega) ?_)) | (show _ ∧ _; (refine ⟨?_, ?_⟩)) | (show keepK _ _ _ _ _; (refine keep_of (by first | exact List.Sublist.refl _ | exact List.Sublist.cons _ (List.Sublist.refl _) | exact List.Sublist.cons _ (List.Sublist.cons _ (List.Sublist.refl _)) | exact List.Sublist.cons _ (List.Sublist.cons _ (List.Sublist.cons _ (List.Sublist.refl _)))) (by first | exact (fun _ _ h => h) | exact (fun _ _ h => h.1) | exact (fun _ _ h => h.1.1)) ?_)) | (show ownK _ _ _ _ _; (refine own_keep ?_))))
    refine call_opts (o := o) hg (fun _ => rfl) Try.call24 (fun w => options_any w o) (fun x hx hcap => ?_)
    have h0 : RdBase x ((baseA w).and ((bytsD x).past w.heap.size)) := opts_base hg hx
    (repeat' ((conv => whnf) <;> first | (show Wp _ _ _ _ _ _ _; (refine Wp.go tabOk rfl ?_)) | (show @cmpK _ _ _; (first | refine cmp_yes (by omega) ?_ | refine cmp_no (by omega) ?_ | (refine cmp_both ?_ ?_ <;> intro _))) | (show wrapK _ _ _; (refine wrap_i64 (by omega) (by omega) ?_)) | (show leK _ _ _; (refine le_of (by first | exact Nat.le_refl _ | omega) ?_)) | (show roomK _ _ _; (refine room_of (by first | omega | (dsimp only; omega)) ?_)) | (show ltK _ _ _; (refine lt_of (by omega) ?_)) | (show _ ∧ _; (refine ⟨?_, ?_⟩)) | (show keepK _ _ _ _ _; (refine keep_of (by first | exact List.Sublist.refl _ | exact List.Sublist.cons _ (List.Sublist.refl _) | exact List.Sublist.cons _ (List.Sublist.cons _ (List.Sublist.refl _)) | exact List.Sublist.cons _ (List.Sublist.cons _ (List.Sublist.cons _ (List.Sublist.refl _)))) (by first | exact (fun _ _ h => h) | exact (fun _ _ h => h.1) | exact (fun _ _ h => h.1.1)) ?_)) | (show ownK _ _ _ _ _; (refine own_keep ?_))))
    refine call_opts (o := o) hg (fun _ => rfl) Try.call25 (fun w => refOptions_any w o) (fun y hy hcapy => ?_)
    have h1 : RdBase y (((baseA w).and ((bytsD x).past w.heap.size)).and ((bytsD y).past w.heap.size)) := opts_base hg hy
    have h2 : RdBase x (((baseA w).and ((bytsD x).past w.heap.size)).and ((bytsD y).past w.heap.size)) := ⟨h0.small, h0.bytes, fun R w h => h0.data R w h.1⟩
    have hrd : readOpt x.bs = (o, 0) := by rw [hx]; exact readOpt_write hg
    have hRd : ∀ {ρ nx H} {w' : World}, Abs ⟨w, []⟩ ρ nx H (((baseA w).and ((bytsD x).past w.heap.size)).and ((bytsD y).past w.heap.size)) w' → Calls Try.prog 26 #[x.val] w' (fun e w'' => e = .returned (.tuple #[o.val, .int .i64 0]) ∧ Ext w' w'') := fun {ρ nx H w'} hw => by
      have := readOptions_any w' x (rd_into h2 hcap hw)
      unfold ROPost at this
      rw [hrd] at this
      exact this
    (repeat' ((conv => whnf) <;> first | (show callK _ 26 _ _ _ _ _; (refine call_pure (f := 26) Try.call26 _ (fun ρ w' hw => hRd hw) ?_)) | (show strK _ _ _ _ _ _ _; (first | refine str_ro (base := x.base) (bs := optBytes o) Try.underlying35 Try.underlying5 Try.underlying9 (fun R w' h => hx ▸ rowsA_in (h2.data R w' h)) (by rw [hx]) ?_ | refine str_ro (base := y.base) (bs := optBytes o) Try.underlying35 Try.underlying5 Try.underlying9 (fun R w' h => hy ▸ rowsA_in (h1.data R w' h)) (by rw [hy]) ?_)) | (show pureK _ _ _; (first | refine str_neq rfl ?_ | refine opt_eql (o := o) ho ?_)) | (show Wp _ _ _ _ _ _ _; (refine Wp.go tabOk rfl ?_)) | (show @cmpK _ _ _; (first | refine cmp_yes (by omega) ?_ | refine cmp_no (by omega) ?_ | (refine cmp_both ?_ ?_ <;> intro _))) | (show wrapK _ _ _; (refine wrap_i64 (by omega) (by omega) ?_)) | (show leK _ _ _; (refine le_of (by first | exact Nat.le_refl _ | omega) ?_)) | (show roomK _ _ _; (refine room_of (by first | omega | (dsimp only; omega)) ?_)) | (show ltK _ _ _; (refine lt_of (by omega) ?_)) | (show _ ∧ _; (refine ⟨?_, ?_⟩)) | (show keepK _ _ _ _ _; (refine keep_of (by first | exact List.Sublist.refl _ | exact List.Sublist.cons _ (List.Sublist.refl _) | exact List.Sublist.cons _ (List.Sublist.cons _ (List.Sublist.refl _)) | exact List.Sublist.cons _ (List.Sublist.cons _ (List.Sublist.cons _ (List.Sublist.refl _)))) (by first | exact (fun _ _ h => h) | exact (fun _ _ h => h.1) | exact (fun _ _ h => h.1.1)) ?_)) | (show ownK _ _ _ _ _; (refine own_keep ?_))))
    conv => whnf
    exact ends_bool (fun R w' h => h.1.1) rfl rfl
  · have hbad : ∀ {f : FuncId}, (∀ w, Calls Try.prog f #[o.val] w (OptPost w o)) → ∀ w', Calls Try.prog f #[o.val] w' (fun e w'' => e = .returned (.tuple #[.slice none 0 0, .int .i64 1]) ∧ Ext w' w'') := fun h w' => (h w').mono fun e w'' he => he.elim (fun hh => absurd hh.1 hg) (fun hh => hh.2)
    (repeat' ((conv => whnf) <;> first | (show callK _ 23 _ _ _ _ _; (refine call_pure (f := 23) Try.call23 (.bool true) (fun ρ w' hw => scrollFixed_any w') ?_)) | (show callK _ 24 _ _ _ _ _; (refine call_pure (f := 24) Try.call24 _ (fun ρ w' hw => hbad (fun w => options_any w o) w') ?_)) | (show callK _ 25 _ _ _ _ _; (refine call_pure (f := 25) Try.call25 _ (fun ρ w' hw => hbad (fun w => refOptions_any w o) w') ?_)) | (show strK _ _ _ _ _ _ _; (refine str_ro (bs := []) Try.underlying35 Try.underlying5 Try.underlying9 (fun R w' h => .inl rfl) rfl ?_)) | (show pureK _ _ _; (refine str_neq rfl ?_)) | (show callK _ 26 _ _ _ _ _; (refine call_pure (f := 26) Try.call26 _ (fun ρ w' hw => readOptions_any w' nilV (nil_in w')) ?_)) | (show Wp _ _ _ _ _ _ _; (refine Wp.go tabOk rfl ?_)) | (show @cmpK _ _ _; (first | refine cmp_yes (by omega) ?_ | refine cmp_no (by omega) ?_ | (refine cmp_both ?_ ?_ <;> intro _))) | (show wrapK _ _ _; (refine wrap_i64 (by omega) (by omega) ?_)) | (show leK _ _ _; (refine le_of (by first | exact Nat.le_refl _ | omega) ?_)) | (show roomK _ _ _; (refine room_of (by first | omega | (dsimp only; omega)) ?_)) | (show ltK _ _ _; (refine lt_of (by omega) ?_)) | (show _ ∧ _; (refine ⟨?_, ?_⟩)) | (show keepK _ _ _ _ _; (refine keep_of (by first | exact List.Sublist.refl _ | exact List.Sublist.cons _ (List.Sublist.refl _) | exact List.Sublist.cons _ (List.Sublist.cons _ (List.Sublist.refl _)) | exact List.Sublist.cons _ (List.Sublist.cons _ (List.Sublist.cons _ (List.Sublist.refl _)))) (by first | exact (fun _ _ h => h) | exact (fun _ _ h => h.1) | exact (fun _ _ h => h.1.1)) ?_)) | (show ownK _ _ _ _ _; (refine own_keep ?_))))
    conv => whnf
    exact ends_bool (fun _ _ h => h) rfl rfl
end Go.Proofs.Ytajbngkcgbehlaa
/- SP -/
namespace Go.Proofs.Ytajbngkcgbehlaa
open Go.SX Go.RowKit Go.ChangeShapes Go.WideShapes Go.ChangeAt
/-! plain: few numbers are read of few bytes -/
theorem readMany_le {α : Type} {f : RdS → α × RdS} (hf : ∀ s, (f s).2.1.length ≤ s.1.length) : ∀ (k : Nat) (s : RdS), (readMany f k s).2.1.length ≤ s.1.length
  | 0, s => Nat.le_refl _
  | k + 1, s => by
    unfold readMany
    split
    · exact Nat.le_refl _
    · exact Nat.le_trans (readMany_le hf k _) (hf s)
theorem readMany_few {α : Type} {f : RdS → α × RdS} {c : Nat} (hf : ∀ s, (f s).2.2 = 0 → (f s).2.1.length + c ≤ s.1.length) : ∀ (k : Nat) (s : RdS), c * (readMany f k s).1.length ≤ s.1.length + c
  | 0, s => by simp [readMany]
  | k + 1, s => by
    unfold readMany
    split
    · simp
    · simp only [List.length_cons]
      by_cases h : (f s).2.2 = 0
      · have h1 := hf s h
        have h2 := readMany_few hf k (f s).2
        rw [Nat.mul_succ]; omega
      · rw [readMany_stop f (.inr h)]; simp
theorem readMany_mem {α : Type} {f : RdS → α × RdS} (hf : ∀ s, (f s).2.1.length ≤ s.1.length) : ∀ (k : Nat) (s : RdS) (x : α), x ∈ (readMany f k s).1 → ∃ s' : RdS, s'.1.length ≤ s.1.length ∧ x = (f s').1
  | 0, s, x, h => by simp [readMany] at h
  | k + 1, s, x, h => by
    unfold readMany at h
    split at h
    · simp at h
    · rcases List.mem_cons.1 h with h | h
      · exact ⟨s, Nat.le_refl _, h⟩
      · obtain ⟨s', h1, h2⟩ := readMany_mem hf k _ x h
        exact ⟨s', Nat.le_trans h1 (hf s), h2⟩
theorem rdNum_le (n : Nat) (s : RdS) : (rdNum n s).2.1.length ≤ s.1.length := by
  unfold rdNum
  split
  · exact Nat.le_refl _
  · split
    · exact Nat.le_refl _
    · simp
theorem rdNum_eat {n : Nat} {s : RdS} (h : (rdNum n s).2.2 = 0) : (rdNum n s).2.1.length + n ≤ s.1.length := by
  unfold rdNum at h ⊢
  split at h
  · exact absurd h (by assumption)
  · split at h
    · cases h
    · rw [if_neg (by assumption), if_neg (by assumption)]
      simp only [List.length_drop]; omega
theorem rdSigned_le (s : RdS) : (rdSigned s).2.1.length ≤ s.1.length := rdNum_le 4 s
theorem rdSigned_eat (s : RdS) (h : (rdSigned s).2.2 = 0) : (rdSigned s).2.1.length + 4 ≤ s.1.length := rdNum_eat h
theorem readRow_le (s : RdS) : (readRow s).2.1.length ≤ s.1.length := Nat.le_trans (readMany_le rdSigned_le _ _) (rdNum_le 2 s)
theorem readRow_few (s : RdS) : 4 * (readRow s).1.length ≤ s.1.length + 4 := by
  have := readMany_few (f := rdSigned) (c := 4) rdSigned_eat (rdNum 2 s).1.toNat (rdNum 2 s).2
  have h2 := rdNum_le 2 s
  show 4 * (readMany rdSigned _ _).1.length ≤ _
  omega
theorem readShape_le (s : RdS) : (readShape s).2.1.length ≤ s.1.length := Nat.le_trans (readMany_le (rdNum_le 1) _ _) (rdNum_le 1 s)
theorem ndD_le (s : RdS) : (ndZ s).2.1.length ≤ s.1.length :=
  Nat.le_trans (rdNum_le 1 _) (Nat.le_trans (rdSigned_le _) (Nat.le_trans (rdSigned_le _) (Nat.le_trans (readShape_le _) (Nat.le_trans (rdNum_le 1 _) (Nat.le_trans (rdNum_le 1 _) (rdNum_le 1 _))))))
theorem readNode_le (s : RdS) : (readNode s).2.1.length ≤ s.1.length := Nat.le_trans (readRow_le _) (Nat.le_trans (readRow_le _) (ndD_le s))
theorem few_read {bs : List Int} (h : bs.length ≤ 8000) : FewRead bs := by
  intro n hn
  obtain ⟨s, hs, rfl⟩ := readMany_mem readNode_le _ _ n hn
  have h0 : (rdStart 6 (bs, 0)).1.length ≤ bs.length := rdNum_le 1 (bs, 0)
  have h1 := rdNum_le 1 (rdStart 6 (bs, 0))
  have h2 := ndD_le s
  have h3 := readRow_few (ndZ s).2
  have h4 := readRow_few (ndD s).2
  have h5 := readRow_le (ndZ s).2
  exact ⟨by show (readRow (ndZ s).2).1.length ≤ 5000; omega, by show (readRow (ndD s).2).1.length ≤ 5000; have : (ndD s).2.1.length ≤ (ndZ s).2.1.length := h5; omega⟩
theorem optB_bytes {s : RdS} (hb : ∀ x ∈ s.1, 0 ≤ x ∧ x ≤ 255) : ∀ x ∈ (rdTruth s).2.1, 0 ≤ x ∧ x ≤ 255 := rdNum_bytes (n := 1) hb
theorem readOpt_fits {bs : List Int} (hb : ∀ x ∈ bs, 0 ≤ x ∧ x ≤ 255) : (readOpt bs).1.fits := by
  have h0 : ∀ x ∈ (rdStart 7 (bs, 0)).1, 0 ≤ x ∧ x ≤ 255 := rdNum_bytes (n := 1) (s := (bs, 0)) hb
  have h1 := rd1_bound h0
  have h2 := rdTwo_bound (s := (optD bs).2) (optB_bytes (optB_bytes (optB_bytes (rdNum_bytes h0))))
  unfold readOpt
  split
  · show zeroO.fits; unfold OptV.fits zeroO; decide
  · exact ⟨⟨by show _ ≤ (optA bs).1; unfold optA; omega, by show (optA bs).1 ≤ _; unfold optA; omega⟩, ⟨by show _ ≤ (optR bs).1; unfold optR; omega, by show (optR bs).1 ≤ _; unfold optR; omega⟩⟩
/-! bytes that are handed in -/
structure RdRaw (w : World) (u : RdV) : Prop where
  rows : RowsI w u.base 1 (byts u.bs)
  bytes : ∀ x ∈ u.bs, 0 ≤ x ∧ x ≤ 255
  room : u.bs.length ≤ u.cap
  none_ : u.base = none → u.cap = 0
theorem addr_plainR {w : World} {a : Addr} {v : Value} (h : w.cell? a = some v) : a = ⟨a.block, a.off, none⟩ := by
  obtain ⟨b, o, p⟩ := a
  cases p with
  | none => rfl
  | some x =>
    simp only [World.cell?, Option.isSome_some, if_true] at h
    split at h <;> cases h
theorem raw_data {w : World} {t : RdV} (h : RowsI w t.base 1 (byts t.bs)) : (bytsD t).holds (fun b => b < w.heap.size) w := by
  refine ⟨fun r hr => ?_, ?_⟩
  · simp only [byts, List.mem_map] at hr
    obtain ⟨x, _, rfl⟩ := hr
    exact ⟨rfl, fun v hv => by simp at hv; subst hv; rfl⟩
  rcases h with h0 | ⟨a, ha, hc⟩
  · exact .inl h0
  · cases hl : t.bs with
    | nil => exact .inl rfl
    | cons x r =>
      have h1 : w.cell? (a.add (0 * 1 + 0)) = some (.int .u8 x) := hc 0 [.int .u8 x] (by rw [hl]; rfl) 0 _ rfl
      have h2 : a.add (0 * 1 + 0) = a := by simp [Addr.add]
      rw [h2] at h1
      have ea := addr_plainR h1
      refine .inr ⟨a.block, a.off, by rw [ha, ← ea], cell_block h1, fun i q hi j v hj => ?_⟩
      have := hc i q (by rw [hl]; exact hi) j v hj
      rw [ea, add_none] at this
      exact this
theorem raw_in {w : World} {u : RdV} (h : RdRaw w u) (hs : u.bs.length ≤ 1000000) : RdIn w u := ⟨hs, h.bytes, h.room, raw_data h.rows⟩
theorem freeze_byts {w0 : World} {i n : Nat} (xs : List Int) {R0 : List (List Value)} {T : TypeId} {H : Heap} {S : Asn} {nx : Nat} {K : SV → Heap → Asn → Nat → Prop} (hN : ∀ R w, S.holds R w → (baseA w0).holds R w) (he : R0 = byts xs) (hn : n = xs.length) (h : ∀ u : RdV, u.bs = xs → u.bs.length ≤ u.cap → K (.c u.val) H (S.and ((bytsD u).past w0.heap.size)) nx) : ownK (.os i n) ((i, .rows R0 1 T) :: H) S nx K := by
  subst he hn
  exact own_freeze w0.heap.size (fun R w hS b hb => (hN R w hS b hb).1) (fun l hl => h ⟨l.base, l.cap, xs⟩ rfl (by simpa [byts_length] using hl))
theorem fit_of {g : GraphV} {R : Nat → Prop} {w : World} {N : Nat} (hs : g.sane) (h : ((graphD g).past N).holds R w) : g.fit w :=
  ⟨rowsA_in h.1, fun n hn => sane_ok (hs.each n hn) ((nodeD n false).mono (h.2 n hn) (fun _ _ => trivial)), by have := hs.few; omega⟩
theorem call_read {B : Base} {m : Nat} {f : FuncId} {H : Heap} {S : Asn} {nx : Nat} {K : SV → Heap → Asn → Nat → Prop} (u : RdV) (r : List NodeP × Int × Int) (hf : ∀ ar w, (callFunc f ar).run Try.prog w = .ok (.enter f ar) w)
    (hc : ∀ ρ w, Abs B ρ nx H S w → Calls Try.prog f #[u.val] w (ReadPost w r))
    (h : ∀ g : GraphV, g.pl = (r.1, r.2.1) → g.sane → K (.c (.tuple #[g.val, .int .i64 r.2.2])) H (S.and ((graphD g).past B.w0.heap.size)) nx) : callK ⟨Try.prog, B, m, tab⟩ f [.c u.val] H S nx K := by
  refine call_past hf (fun g : GraphV => .tuple #[g.val, .int .i64 r.2.2]) graphD (fun g => g.pl = (r.1, r.2.1) ∧ g.sane) (fun ρ w hw => ?_) (fun g hg => h g hg.1 hg.2)
  refine (hc ρ w hw).mono ?_
  rintro e w' ⟨g, h1, h2, h3, h4, h5⟩
  exact ⟨g, ⟨h1, h2⟩, h3, h4, h5⟩
theorem into_in {B : Base} {ρ : Nat → SX.Loc} {nx : Nat} {H : Heap} {S : Asn} {w : World} {u : RdV} (h0 : RdBase u S) (hr : u.bs.length ≤ u.cap) (hw : Abs B ρ nx H S w) : RdIn w u := rd_into h0 hr hw
theorem byts_row {l : List Int} : ∀ r ∈ byts l, r.length = 1 ∧ ∀ v ∈ r, v.oneCell' = true := fun r hr => by
  simp only [byts, List.mem_map] at hr
  obtain ⟨x, _, rfl⟩ := hr
  exact ⟨rfl, fun v hv => by simp at hv; subst hv; rfl⟩
set_option maxRecDepth 20000 in
theorem lawReads_any (w : World) (u : RdV) (hu : RdRaw w u) : Calls Try.prog 8 #[u.val] w fun e w' => e = .returned (.bool true) ∧ Ext w w' := by
  by_cases hl : u.bs.length ≤ 8000
  case neg =>
    refine calls_of tab tabOk Try.func8 rfl rfl rfl [] (fun _ => ⟨none, 0⟩) [.c u.val] [] (baseA w) 0 rfl rfl (by show 1 ≤ _; decide) (abs_base w) ?_
    (repeat' ((conv => whnf) <;> first | (show callK _ 23 _ _ _ _ _; (refine call_pure (f := 23) Try.call23 (.bool true) (fun ρ w' hw => scrollFixed_any w') ?_)) | (show Wp _ _ _ _ _ _ _; (refine Wp.go tabOk rfl ?_)) | (show @cmpK _ _ _; (first | refine cmp_yes (by omega) ?_ | refine cmp_no (by omega) ?_ | (refine cmp_both ?_ ?_ <;> intro _))) | (show wrapK _ _ _; (refine wrap_i64 (by omega) (by omega) ?_)) | (show leK _ _ _; (refine le_of (by first | exact Nat.le_refl _ | omega) ?_)) | (show roomK _ _ _; (refine room_of (by first | omega | (dsimp only; omega)) ?_)) | (show ltK _ _ _; (refine lt_of (by omega) ?_)) | (show _ ∧ _; (refine ⟨?_, ?_⟩)) | (show keepK _ _ _ _ _; (refine keep_of (by first | exact List.Sublist.refl _ | exact List.Sublist.cons _ (List.Sublist.refl _) | exact List.Sublist.cons _ (List.Sublist.cons _ (List.Sublist.refl _)) | exact List.Sublist.cons _ (List.Sublist.cons _ (List.Sublist.cons _ (List.Sublist.refl _)))) (by first | exact (fun _ _ h => h) | exact (fun _ _ h => h.1) | exact (fun _ _ h => h.1.1)) ?_)) | (show ownK _ _ _ _ _; (refine own_keep ?_))))
    conv => whnf
    exact ends_bool (fun _ _ h => h) rfl rfl
  have hin := raw_in hu (by omega)
  have h0 := hin.base
  have hfew := few_read hl
  refine calls_of tab tabOk Try.func8 rfl rfl rfl [] (fun _ => ⟨none, 0⟩) [.c u.val] [] (baseA w) 0 rfl rfl (by show 1 ≤ _; decide) (abs_base w) ?_
  (repeat' ((conv => whnf) <;> first | (show callK _ 23 _ _ _ _ _; (refine call_pure (f := 23) Try.call23 (.bool true) (fun ρ w' hw => scrollFixed_any w') ?_)) | (show Wp _ _ _ _ _ _ _; (refine Wp.go tabOk rfl ?_)) | (show @cmpK _ _ _; (first | refine cmp_yes (by omega) ?_ | refine cmp_no (by omega) ?_ | (refine cmp_both ?_ ?_ <;> intro _))) | (show wrapK _ _ _; (refine wrap_i64 (by omega) (by omega) ?_)) | (show leK _ _ _; (refine le_of (by first | exact Nat.le_refl _ | omega) ?_)) | (show roomK _ _ _; (refine room_of (by first | omega | (dsimp only; omega)) ?_)) | (show ltK _ _ _; (refine lt_of (by omega) ?_)) | (show _ ∧ _; (refine ⟨?_, ?_⟩)) | (show keepK _ _ _ _ _; (refine keep_of (by first | exact List.Sublist.refl _ | exact List.Sublist.cons _ (List.Sublist.refl _) | exact List.Sublist.cons _ (List.Sublist.cons _ (List.Sublist.refl _)) | exact List.Sublist.cons _ (List.Sublist.cons _ (List.Sublist.cons _ (List.Sublist.refl _)))) (by first | exact (fun _ _ h => h) | exact (fun _ _ h => h.1) | exact (fun _ _ h => h.1.1)) ?_))))
  refine own_keep ?_
  obtain ⟨base, cap, bs⟩ := u
  cases base
  case' none =>
    obtain rfl : cap = 0 := hu.none_ rfl
    obtain rfl : bs = [] := by
      rcases hu.rows with h | ⟨a, ha, _⟩
      · simpa [byts] using h
      · cases ha
    (repeat' ((conv => whnf) <;> first | (show callK _ 23 _ _ _ _ _; (refine call_pure (f := 23) Try.call23 (.bool true) (fun ρ w' hw => scrollFixed_any w') ?_)) | (show roomK _ _ _; (refine room_of (by decide) ?_)) | (show Wp _ _ _ _ _ _ _; (refine Wp.go tabOk rfl ?_)) | (show @cmpK _ _ _; (first | refine cmp_yes (by omega) ?_ | refine cmp_no (by omega) ?_ | (refine cmp_both ?_ ?_ <;> intro _))) | (show wrapK _ _ _; (refine wrap_i64 (by omega) (by omega) ?_)) | (show leK _ _ _; (refine le_of (by first | exact Nat.le_refl _ | omega) ?_)) | (show roomK _ _ _; (refine room_of (by first | omega | (dsimp only; omega)) ?_)) | (show ltK _ _ _; (refine lt_of (by omega) ?_)) | (show _ ∧ _; (refine ⟨?_, ?_⟩)) | (show keepK _ _ _ _ _; (refine keep_of (by first | exact List.Sublist.refl _ | exact List.Sublist.cons _ (List.Sublist.refl _) | exact List.Sublist.cons _ (List.Sublist.cons _ (List.Sublist.refl _)) | exact List.Sublist.cons _ (List.Sublist.cons _ (List.Sublist.cons _ (List.Sublist.refl _)))) (by first | exact (fun _ _ h => h) | exact (fun _ _ h => h.1) | exact (fun _ _ h => h.1.1)) ?_))))
    conv => whnf
    refine freeze_byts (w0 := w) [] (fun R w' h => h) rfl rfl (fun x hx hxc => ?_)
  case' some a =>
    (repeat' ((conv => whnf) <;> first | (show callK _ 23 _ _ _ _ _; (refine call_pure (f := 23) Try.call23 (.bool true) (fun ρ w' hw => scrollFixed_any w') ?_)) | (show roRowsK _ _ _ _ _; (refine roRows_in (byts_length bs) (fun R w' h => rowsA_in (h0.data R w' h)) byts_row ?_)) | (show roomK _ _ _; (refine room_of (by first | omega | (dsimp only; omega) | (rw [byts_length]; dsimp only at hl; omega) | (simp only [List.length_take, List.length_append, byts_length]; dsimp only at hl; omega)) ?_)) | (show Wp _ _ _ _ _ _ _; (refine Wp.go tabOk rfl ?_)) | (show @cmpK _ _ _; (first | refine cmp_yes (by omega) ?_ | refine cmp_no (by omega) ?_ | (refine cmp_both ?_ ?_ <;> intro _))) | (show wrapK _ _ _; (refine wrap_i64 (by omega) (by omega) ?_)) | (show leK _ _ _; (refine le_of (by first | exact Nat.le_refl _ | omega) ?_)) | (show roomK _ _ _; (refine room_of (by first | omega | (dsimp only; omega)) ?_)) | (show ltK _ _ _; (refine lt_of (by omega) ?_)) | (show _ ∧ _; (refine ⟨?_, ?_⟩)) | (show keepK _ _ _ _ _; (refine keep_of (by first | exact List.Sublist.refl _ | exact List.Sublist.cons _ (List.Sublist.refl _) | exact List.Sublist.cons _ (List.Sublist.cons _ (List.Sublist.refl _)) | exact List.Sublist.cons _ (List.Sublist.cons _ (List.Sublist.cons _ (List.Sublist.refl _)))) (by first | exact (fun _ _ h => h) | exact (fun _ _ h => h.1) | exact (fun _ _ h => h.1.1)) ?_))))
    conv => whnf
    refine freeze_byts (w0 := w) bs (fun R w' h => h) rfl (by show 0 + (byts bs).length = _; rw [byts_length]; omega) (fun x hx hxc => ?_)
  all_goals
    have h1 : RdBase x ((baseA w).and ((bytsD x).past w.heap.size)) := ⟨by rw [hx]; exact h0.small, by rw [hx]; exact h0.bytes, fun R w h => (bytsD x).stable (fun b hb => hb.1) (fun _ _ => rfl) h.2⟩
    have hfx : FewRead x.bs := by rw [hx]; exact hfew
    have hof : (readOpt x.bs).1.fits := readOpt_fits h1.bytes
    (repeat' ((conv => whnf) <;> first | (show callK _ 27 _ _ _ _ _; (refine call_read x (readGraph x.bs) Try.call27 (fun ρ w' hw => readGraph_any w' x (rd_into h1 hxc hw) hfx) (fun g hg hgs => ?_))) | (show callK _ 26 _ _ _ _ _; (refine call_pure (f := 26) Try.call26 _ (fun ρ w' hw => readOptions_any w' x (rd_into (rdBase_and h1) hxc hw)) ?_)) | (show callK _ 28 _ _ _ _ _; (refine call_read _ (readGraph x.bs) Try.call28 (fun ρ w' hw => by rw [hx]; exact refReadGraph_any w' _ (rd_into (rdBase_and (rdBase_and h0)) hin.room hw) hfew) (fun k hk hks => ?_))) | (show callK _ 29 _ _ _ _ _; (refine call_pure (f := 29) Try.call29 (.tuple #[(readOpt x.bs).1.val, .int .i64 (readOpt x.bs).2]) (fun ρ w' hw => by rw [hx]; exact refReadOptions_any w' _ (rd_into (rdBase_and (rdBase_and (rdBase_and h0))) hin.room hw)) ?_)) | (show strK _ _ _ _ _ _ _; (first | refine str_ro (base := x.base) (bs := x.bs) Try.underlying35 Try.underlying5 Try.underlying9 (fun R w' h => rowsA_in (h1.data R w' h.1.1)) rfl ?_ | refine str_ro (bs := x.bs) Try.underlying35 Try.underlying5 Try.underlying9 (fun R w' h => by rw [hx]; exact rowsA_in (h0.data R w' h.1.1.1)) (by rw [hx]) ?_)) | (show pureK _ _ _; (first | refine str_eql rfl ?_ | refine opt_eql (o := (readOpt x.bs).1) hof ?_)) | (show callK _ 30 _ _ _ _ _; (refine call_pure (f := 30) Try.call30 (.bool true) (fun ρ w' hw => sameGraph_eq w' g k (holds_of_abs hw fun R h => fit_of hgs h.1.2) (holds_of_abs hw fun R h => fit_of hks h.2) (congrArg Prod.fst (hg.trans hk.symm)) (congrArg Prod.snd (hg.trans hk.symm))) ?_)) | (show Wp _ _ _ _ _ _ _; (refine Wp.go tabOk rfl ?_)) | (show @cmpK _ _ _; (first | refine cmp_yes (by omega) ?_ | refine cmp_no (by omega) ?_ | (refine cmp_both ?_ ?_ <;> intro _))) | (show wrapK _ _ _; (refine wrap_i64 (by omega) (by omega) ?_)) | (show leK _ _ _; (refine le_of (by first | exact Nat.le_refl _ | omega) ?_)) | (show roomK _ _ _; (refine room_of (by first | omega | (dsimp only; omega)) ?_)) | (show ltK _ _ _; (refine lt_of (by omega) ?_)) | (show _ ∧ _; (refine ⟨?_, ?_⟩)) | (show keepK _ _ _ _ _; (refine keep_of (by first | exact List.Sublist.refl _ | exact List.Sublist.cons _ (List.Sublist.refl _) | exact List.Sublist.cons _ (List.Sublist.cons _ (List.Sublist.refl _)) | exact List.Sublist.cons _ (List.Sublist.cons _ (List.Sublist.cons _ (List.Sublist.refl _)))) (by first | exact (fun _ _ h => h) | exact (fun _ _ h => h.1) | exact (fun _ _ h => h.1.1)) ?_)) | (show ownK _ _ _ _ _; (refine own_keep ?_))))
    conv => whnf
    exact ends_bool (fun R w' h => h.1.1.1) rfl rfl
end Go.Proofs.Ytajbngkcgbehlaa
/- SR -/
namespace Go.Proofs.Ytajbngkcgbehlaa
open Go.SX Go.RowKit
def rowBytes (l : List Int) : List Int := beL l.length 2 ++ l.flatMap fun v => beL v 4
def nodeBytes (n : NodeP) : List Int := beL n.kind 1 ++ beL n.a 1 ++ beL n.b 1 ++ beL n.shape.length 1 ++ (n.shape.flatMap fun v => beL v 1) ++ beL n.lo 4 ++ beL n.hi 4 ++ beL n.size 1 ++ rowBytes n.data ++ rowBytes n.bias
def graphBytes (l : List NodeP) (out : Int) : List Int := [6] ++ beL l.length 1 ++ l.flatMap nodeBytes ++ beL out 1
theorem flat_len (l : List Int) (k : Nat) : (l.flatMap fun v => beL v k).length = l.length * k := by
  induction l with
  | nil => simp
  | cons x r ih => rw [List.flatMap_cons, List.length_append, ih, beL_length, List.length_cons, Nat.succ_mul]; omega
theorem rowBytes_len (l : List Int) : (rowBytes l).length = 2 + l.length * 4 := by unfold rowBytes; rw [List.length_append, flat_len, beL_length]
theorem nodeBytes_len (n : NodeP) : (nodeBytes n).length = 4 + n.shape.length + 9 + (2 + n.data.length * 4) + (2 + n.bias.length * 4) := by
  unfold nodeBytes; simp only [List.length_append, flat_len, beL_length, rowBytes_len]; omega
/-- a call that writes, and reads data -/
theorem call_wrD {B : Base} {n i : Nat} {f : FuncId} {args : List SV} {H : Heap} {S : Asn} {nx : Nat} {K : SV → Heap → Asn → Nat → Prop} {bs : List Int} (mk : Value → List Value) (ha : ∀ ρ b, (ρ i).base = some ⟨b, 0, none⟩ → SV.rfs ρ args = mk (.pointer (some ⟨b, 0, none⟩))) (bs' : List Int) (hi : (i, Ent.ext (sliceO 86 5 1 (byts bs))) ∈ H) (hf : ∀ ar w, (callFunc f ar).run Try.prog w = .ok (.enter f ar) w)
    (hc : ∀ R w b F, S.holds R w → (∀ y, R y → othF w F y) → WrAt bs b F w → Calls Try.prog f (mk (Value.pointer (some ⟨b, 0, none⟩))).toArray w (WrPost w b F bs'))
    (h : K (.c (.tuple #[])) (setH i (.ext (sliceO 86 5 1 (byts bs'))) H) S nx) : callK ⟨Try.prog, B, n, tab⟩ f args H S nx K := by
  refine call_sliceD hi hf (fun _ : Unit => .tuple #[]) (fun _ => byts bs') (fun _ => True) (fun R ρ w b F hw hS hR hb hs => ?_) (fun _ _ => h)
  rw [ha ρ b hb]
  exact hc R w b F hS hR hs
theorem flat_snoc {l : List Int} {j k : Nat} (h : j < l.length) : ((l.take (j + 1)).flatMap fun v => beL v k) = ((l.take j).flatMap fun v => beL v k) ++ beL l[j] k := by
  rw [List.take_succ_eq_append_getElem h, List.flatMap_append]; simp
theorem flat_take_len (l : List Int) (j k : Nat) (hj : j ≤ l.length) : ((l.take j).flatMap fun v => beL v k).length = j * k := by
  rw [flat_len, List.length_take, Nat.min_eq_left hj]
set_option maxRecDepth 20000 in
theorem wrow_any (w : World) (b : Nat) (F : Nat → Prop) (bs : List Int) (x : IntsV) (hx : x.sane) (hd : (intsA x).holds (othF w F) w) (hl : bs.length + x.xs.length * 4 + 2 ≤ 1000000) (h : WrAt bs b F w) :
    Calls Try.prog 104 #[.pointer (some ⟨b, 0, none⟩), x.val, .func (.func 103) #[.pointer (some ⟨b, 0, none⟩)] #[]] w (WrPost w b F (bs ++ rowBytes x.xs)) := by
  have hfew := hx.few
  
  refine calls_of tab tabOk Try.func104 rfl rfl rfl [(0, boxL b)] (fun _ => boxL b) [.lp 0 0 0 0, .c x.val, .fn (.func 103) [.lp 0 0 0 0] []] _ (restF w F) 1 (by simp [SV.rfs, SV.rf, boxL, add_none]) rfl (by show 3 ≤ _; decide) (abs_ext h) ?_
  (repeat' ((conv => whnf) <;> first | (show callK _ 53 _ _ _ _ _; (refine call_wr [.int .i64 x.xs.length] _ List.mem_cons_self Try.call53 (fun w b F h => wtwo_any w b F bs _ (by omega) h) ?_)) | (show Wp _ _ _ _ _ _ _; (refine Wp.go tabOk rfl ?_)) | (show @cmpK _ _ _; (first | refine cmp_yes (by omega) ?_ | refine cmp_no (by omega) ?_ | (refine cmp_both ?_ ?_ <;> intro _))) | (show wrapK _ _ _; (refine wrap_i64 (by omega) (by omega) ?_)) | (show leK _ _ _; (refine le_of (by first | exact Nat.le_refl _ | omega) ?_)) | (show roomK _ _ _; (refine room_of (by first | omega | (dsimp only; omega)) ?_)) | (show ltK _ _ _; (refine lt_of (by omega) ?_)) | (show _ ∧ _; (refine ⟨?_, ?_⟩)) | (show keepK _ _ _ _ _; (refine keep_of (by first | exact List.Sublist.refl _ | exact List.Sublist.cons _ (List.Sublist.refl _) | exact List.Sublist.cons _ (List.Sublist.cons _ (List.Sublist.refl _)) | exact List.Sublist.cons _ (List.Sublist.cons _ (List.Sublist.cons _ (List.Sublist.refl _)))) (by first | exact (fun _ _ h => h) | exact (fun _ _ h => h.1) | exact (fun _ _ h => h.1.1)) ?_)) | (show ownK _ _ _ _ _; (refine own_keep ?_))))
  refine Wp.loop (σ := Nat) 1 (fun j => [(2, .fn (.func 103) [.lp 0 0 0 0] []), (12, .c x.val), (13, .c (.int .i64 x.xs.length)), (14, .c (.int .i64 j))]) (fun j => [(0, .ext (sliceO 86 5 1 (byts (bs ++ beL x.xs.length 2 ++ (x.xs.take j).flatMap fun v => beL v 4))))]) (fun _ => restF w F)
    (fun j => j ≤ x.xs.length) (fun j => x.xs.length - j) 0 [] (by decide) (fun s => ⟨rfl, rfl⟩) (Nat.zero_le _) ⟨rfl, ⟨rfl, rfl, rfl, rfl, trivial⟩, ⟨by rw [List.take_zero, List.flatMap_nil, List.append_nil]; exact List.mem_cons_self, trivial⟩, fun _ _ h => h⟩ ?_
  rintro j hj
  by_cases hlt : j < x.xs.length
  · have hR : ∀ R w', (restF w F).holds R w' → RowsI w' x.base 1 (ints x.xs) := fun R w' h => rowsA_in (restF_holds hd h)
    refine Wp.know (p := ∃ a, x.base = some a) (fun ρ w' hw => (holds_of_abs hw fun R h => base_some (j := j) (hR R w' h) (by rw [ints_length]; exact hlt))) ?_
    rintro ⟨a, hba⟩
    have hget := ints_get hlt
    have hsn := flat_snoc (k := 4) hlt
    have hfl := flat_take_len x.xs j 4 hj
    have hlen : (bs ++ beL x.xs.length 2 ++ (x.xs.take j).flatMap fun v => beL v 4).length ≤ 1000000 := by simp only [List.length_append, beL_length, hfl]; omega
    generalize x.xs[j] = v at *
    (repeat' ((conv => whnf) <;> first | (show idxK _ _ _ _ _; (refine idx_of a j hba rfl hlt ?_)) | (show roK _ _ _; (refine ro_row0 (fun R w' h => by rw [← hba]; exact hR R w' h) _ _ hget rfl ?_)) | (show callK _ 103 _ _ _ _ _; (refine call_wr [.int .i64 v] _ List.mem_cons_self Try.call103 (fun w b F h => wsigned_any w b F _ v hlen h) ?_)) | (show Wp _ _ _ _ _ _ _; (refine Wp.go tabOk rfl ?_)) | (show @cmpK _ _ _; (first | refine cmp_yes (by omega) ?_ | refine cmp_no (by omega) ?_ | (refine cmp_both ?_ ?_ <;> intro _))) | (show wrapK _ _ _; (refine wrap_i64 (by omega) (by omega) ?_)) | (show leK _ _ _; (refine le_of (by first | exact Nat.le_refl _ | omega) ?_)) | (show roomK _ _ _; (refine room_of (by first | omega | (dsimp only; omega)) ?_)) | (show ltK _ _ _; (refine lt_of (by omega) ?_)) | (show _ ∧ _; (refine ⟨?_, ?_⟩)) | (show keepK _ _ _ _ _; (refine keep_of (by first | exact List.Sublist.refl _ | exact List.Sublist.cons _ (List.Sublist.refl _) | exact List.Sublist.cons _ (List.Sublist.cons _ (List.Sublist.refl _)) | exact List.Sublist.cons _ (List.Sublist.cons _ (List.Sublist.cons _ (List.Sublist.refl _)))) (by first | exact (fun _ _ h => h) | exact (fun _ _ h => h.1) | exact (fun _ _ h => h.1.1)) ?_)) | (show ownK _ _ _ _ _; (refine own_keep ?_))))
    conv => whnf
    exact ⟨j + 1, [], hlt, by omega, rfl, ⟨rfl, rfl, rfl, rfl, trivial⟩, ⟨by rw [hsn, ← List.append_assoc]; exact List.mem_cons_self, trivial⟩, fun _ _ h => h⟩
  · obtain rfl : j = x.xs.length := by omega
    (repeat' ((conv => whnf) <;> first | (show Wp _ _ _ _ _ _ _; (refine Wp.go tabOk rfl ?_)) | (show @cmpK _ _ _; (first | refine cmp_yes (by omega) ?_ | refine cmp_no (by omega) ?_ | (refine cmp_both ?_ ?_ <;> intro _))) | (show wrapK _ _ _; (refine wrap_i64 (by omega) (by omega) ?_)) | (show leK _ _ _; (refine le_of (by first | exact Nat.le_refl _ | omega) ?_)) | (show roomK _ _ _; (refine room_of (by first | omega | (dsimp only; omega)) ?_)) | (show ltK _ _ _; (refine lt_of (by omega) ?_)) | (show _ ∧ _; (refine ⟨?_, ?_⟩)) | (show keepK _ _ _ _ _; (refine keep_of (by first | exact List.Sublist.refl _ | exact List.Sublist.cons _ (List.Sublist.refl _) | exact List.Sublist.cons _ (List.Sublist.cons _ (List.Sublist.refl _)) | exact List.Sublist.cons _ (List.Sublist.cons _ (List.Sublist.cons _ (List.Sublist.refl _)))) (by first | exact (fun _ _ h => h) | exact (fun _ _ h => h.1) | exact (fun _ _ h => h.1.1)) ?_)) | (show ownK _ _ _ _ _; (refine own_keep ?_))))
    conv => whnf
    refine wr_fin (fun _ => rfl) ?_ (fun _ _ h => h)
    rw [List.take_of_length_le (Nat.le_refl _), List.append_assoc]
    exact List.mem_cons_self
end Go.Proofs.Ytajbngkcgbehlaa
/- SS -/
namespace Go.Proofs.Ytajbngkcgbehlaa
open Go.SX Go.RowKit
set_option maxRecDepth 20000 in
theorem wnode_any (w : World) (b : Nat) (F : Nat → Prop) (bs : List Int) (n : NodeV) (hn : n.sane) (hd : (nodeD n false).holds (othF w F) w) (hl : bs.length + (nodeBytes n.pl).length ≤ 1000000) (h : WrAt bs b F w) :
    Calls Try.prog 72 #[.pointer (some ⟨b, 0, none⟩), n.valA] w (WrPost w b F (bs ++ nodeBytes n.pl)) := by
  rw [nodeBytes_len] at hl
  have hl : bs.length + (4 + n.shape.xs.length + 9 + (2 + n.data.xs.length * 4) + (2 + n.bias.xs.length * 4)) ≤ 1000000 := hl
  have hsf := hn.shape.few
  obtain ⟨hdS, hdD, hdB⟩ := hd
  have hdS := hdS rfl
  
  refine calls_of tab tabOk Try.func72 rfl rfl rfl [(0, boxL b)] (fun _ => boxL b) [.lp 0 0 0 0, .agg [.c (.int .i64 n.kind), .c (.int .i64 n.a), .c (.int .i64 n.b), .c n.shape.val, .c (.int .i64 n.lo), .c (.int .i64 n.hi), .c (.int .i64 n.size), .c n.data.val, .c n.bias.val]] _ (restF w F) 1 (by simp [SV.rfs, SV.rf, boxL, add_none, NodeV.valA, NodeV.cells]) rfl (by show 2 ≤ _; decide) (abs_ext h) ?_
  (repeat' ((conv => whnf) <;> first | (show Wp _ _ _ _ _ _ _; (refine Wp.go tabOk rfl ?_)) | (show @cmpK _ _ _; (first | refine cmp_yes (by omega) ?_ | refine cmp_no (by omega) ?_ | (refine cmp_both ?_ ?_ <;> intro _))) | (show wrapK _ _ _; (refine wrap_i64 (by omega) (by omega) ?_)) | (show leK _ _ _; (refine le_of (by first | exact Nat.le_refl _ | omega) ?_)) | (show roomK _ _ _; (refine room_of (by first | omega | (dsimp only; omega)) ?_)) | (show ltK _ _ _; (refine lt_of (by omega) ?_)) | (show _ ∧ _; (refine ⟨?_, ?_⟩)) | (show keepK _ _ _ _ _; (refine keep_of (by first | exact List.Sublist.refl _ | exact List.Sublist.cons _ (List.Sublist.refl _) | exact List.Sublist.cons _ (List.Sublist.cons _ (List.Sublist.refl _)) | exact List.Sublist.cons _ (List.Sublist.cons _ (List.Sublist.cons _ (List.Sublist.refl _)))) (by first | exact (fun _ _ h => h) | exact (fun _ _ h => h.1) | exact (fun _ _ h => h.1.1)) ?_)) | (show ownK _ _ _ _ _; (refine own_keep ?_))))
  refine Wp.rounds 5 ?_
  (repeat' ((conv => whnf) <;> first | (show idxRowK _ _ _ _ _ _; (first | refine idxRow_of 0 (by omega) (Nat.le_of_ble_eq_true rfl) (Nat.le_of_ble_eq_true rfl) ?_ | refine idxRow_of 1 (by omega) (Nat.le_of_ble_eq_true rfl) (Nat.le_of_ble_eq_true rfl) ?_ | refine idxRow_of 2 (by omega) (Nat.le_of_ble_eq_true rfl) (Nat.le_of_ble_eq_true rfl) ?_ | refine idxRow_of 3 (by omega) (Nat.le_of_ble_eq_true rfl) (Nat.le_of_ble_eq_true rfl) ?_)) | (show rowK _ _ _ _; (refine row_of _ _ rfl rfl ?_)) | (show callK _ 71 _ _ _ _ _; (refine call_wr [.int .i64 _] _ (by repeat (first | exact List.mem_cons_self | apply List.mem_cons_of_mem)) Try.call71 (fun w b F h => wone_any w b F _ _ (by first | omega | (simp only [List.length_append, beL_length, flat_len, rowBytes_len, List.length_take]; omega)) h) ?_)) | (show Wp _ _ _ _ _ _ _; (refine Wp.go tabOk rfl ?_)) | (show @cmpK _ _ _; (first | refine cmp_yes (by omega) ?_ | refine cmp_no (by omega) ?_ | (refine cmp_both ?_ ?_ <;> intro _))) | (show wrapK _ _ _; (refine wrap_i64 (by omega) (by omega) ?_)) | (show leK _ _ _; (refine le_of (by first | exact Nat.le_refl _ | omega) ?_)) | (show roomK _ _ _; (refine room_of (by first | omega | (dsimp only; omega)) ?_)) | (show ltK _ _ _; (refine lt_of (by omega) ?_)) | (show _ ∧ _; (refine ⟨?_, ?_⟩)) | (show keepK _ _ _ _ _; (refine keep_of (by first | exact List.Sublist.refl _ | exact List.Sublist.cons _ (List.Sublist.refl _) | exact List.Sublist.cons _ (List.Sublist.cons _ (List.Sublist.refl _)) | exact List.Sublist.cons _ (List.Sublist.cons _ (List.Sublist.cons _ (List.Sublist.refl _)))) (by first | exact (fun _ _ h => h) | exact (fun _ _ h => h.1) | exact (fun _ _ h => h.1.1)) ?_)) | (show ownK _ _ _ _ _; (refine own_keep ?_))))
  refine Wp.loop (σ := Nat) 3 (fun j => [(0, .lp 0 0 0 0), (3, .lp 1 0 0 0), (28, .c n.shape.val), (29, .c (.int .i64 n.shape.xs.length)), (30, .c (.int .i64 j))]) (fun j => [(1, .box [.c (.int .i64 n.kind), .c (.int .i64 n.a), .c (.int .i64 n.b), .c n.shape.val, .c (.int .i64 n.lo), .c (.int .i64 n.hi), .c (.int .i64 n.size), .c n.data.val, .c n.bias.val] 43), (0, .ext (sliceO 86 5 1 (byts (bs ++ beL n.kind 1 ++ beL n.a 1 ++ beL n.b 1 ++ beL n.shape.xs.length 1 ++ (n.shape.xs.take j).flatMap fun v => beL v 1))))]) (fun _ => restF w F)
    (fun j => j ≤ n.shape.xs.length) (fun j => n.shape.xs.length - j) 0 [] (by decide) (fun s => ⟨rfl, rfl⟩) (Nat.zero_le _) ⟨rfl, ⟨rfl, rfl, rfl, rfl, rfl, trivial⟩, ⟨(by repeat (first | exact List.mem_cons_self | apply List.mem_cons_of_mem)), by rw [List.take_zero, List.flatMap_nil, List.append_nil]; exact (by repeat (first | exact List.mem_cons_self | apply List.mem_cons_of_mem)), trivial⟩, fun _ _ h => h⟩ ?_
  rintro j hj
  by_cases hlt : j < n.shape.xs.length
  · have hR : ∀ R w', (restF w F).holds R w' → RowsI w' n.shape.base 1 (ints n.shape.xs) := fun R w' h => rowsA_in (restF_holds hdS h)
    refine Wp.know (p := ∃ a, n.shape.base = some a) (fun ρ w' hw => (holds_of_abs hw fun R h => base_some (j := j) (hR R w' h) (by rw [ints_length]; exact hlt))) ?_
    rintro ⟨a, hba⟩
    have hget := ints_get hlt
    have hsn := flat_snoc (k := 1) hlt
    have hfl := flat_take_len n.shape.xs j 1 hj
    have hlen : (bs ++ beL n.kind 1 ++ beL n.a 1 ++ beL n.b 1 ++ beL n.shape.xs.length 1 ++ (n.shape.xs.take j).flatMap fun v => beL v 1).length ≤ 1000000 := by simp only [List.length_append, beL_length, hfl]; omega
    generalize n.shape.xs[j] = v at *
    (repeat' ((conv => whnf) <;> first | (show idxK _ _ _ _ _; (refine idx_of a j hba rfl hlt ?_)) | (show roK _ _ _; (refine ro_row0 (fun R w' h => by rw [← hba]; exact hR R w' h) _ _ hget rfl ?_)) | (show callK _ 71 _ _ _ _ _; (refine call_wr [.int .i64 v] _ (by repeat (first | exact List.mem_cons_self | apply List.mem_cons_of_mem)) Try.call71 (fun w b F h => wone_any w b F _ v hlen h) ?_)) | (show Wp _ _ _ _ _ _ _; (refine Wp.go tabOk rfl ?_)) | (show @cmpK _ _ _; (first | refine cmp_yes (by omega) ?_ | refine cmp_no (by omega) ?_ | (refine cmp_both ?_ ?_ <;> intro _))) | (show wrapK _ _ _; (refine wrap_i64 (by omega) (by omega) ?_)) | (show leK _ _ _; (refine le_of (by first | exact Nat.le_refl _ | omega) ?_)) | (show roomK _ _ _; (refine room_of (by first | omega | (dsimp only; omega)) ?_)) | (show ltK _ _ _; (refine lt_of (by omega) ?_)) | (show _ ∧ _; (refine ⟨?_, ?_⟩)) | (show keepK _ _ _ _ _; (refine keep_of (by first | exact List.Sublist.refl _ | exact List.Sublist.cons _ (List.Sublist.refl _) | exact List.Sublist.cons _ (List.Sublist.cons _ (List.Sublist.refl _)) | exact List.Sublist.cons _ (List.Sublist.cons _ (List.Sublist.cons _ (List.Sublist.refl _)))) (by first | exact (fun _ _ h => h) | exact (fun _ _ h => h.1) | exact (fun _ _ h => h.1.1)) ?_)) | (show ownK _ _ _ _ _; (refine own_keep ?_))))
    conv => whnf
    exact ⟨j + 1, [], hlt, by omega, rfl, ⟨rfl, rfl, rfl, rfl, rfl, trivial⟩, ⟨(by repeat (first | exact List.mem_cons_self | apply List.mem_cons_of_mem)), by rw [hsn, ← List.append_assoc]; exact (by repeat (first | exact List.mem_cons_self | apply List.mem_cons_of_mem)), trivial⟩, fun _ _ h => h⟩
  · obtain rfl : j = n.shape.xs.length := by omega
    rw [List.take_of_length_le (Nat.le_refl _)]
    (repeat' ((conv => whnf) <;> first | (show callK _ 71 _ _ _ _ _; (refine call_wr [.int .i64 _] _ (by repeat (first | exact List.mem_cons_self | apply List.mem_cons_of_mem)) Try.call71 (fun w b F h => wone_any w b F _ _ (by first | omega | (simp only [List.length_append, beL_length, flat_len, rowBytes_len, List.length_take]; omega)) h) ?_)) | (show callK _ 103 _ _ _ _ _; (refine call_wr [.int .i64 _] _ (by repeat (first | exact List.mem_cons_self | apply List.mem_cons_of_mem)) Try.call103 (fun w b F h => wsigned_any w b F _ _ (by first | omega | (simp only [List.length_append, beL_length, flat_len, rowBytes_len, List.length_take]; omega)) h) ?_)) | ((show callK _ 104 [.lp 0 0 0 0, .c n.data.val, _] _ _ _ _); refine call_wrD (i := 0) (fun p => [p, n.data.val, .func (.func 103) #[p] #[]]) (fun ρ b hb => by simp [SV.rfs, SV.rf, hb, add_none]) _ (by repeat (first | exact List.mem_cons_self | apply List.mem_cons_of_mem)) Try.call104 (fun R w' b F' hS hR h => wrow_any w' b F' _ n.data hn.data ((intsA n.data).mono (restF_holds hdD hS) hR) (by first | omega | (simp only [List.length_append, beL_length, flat_len, rowBytes_len, List.length_take]; omega)) h) ?_) | (show callK _ 104 _ _ _ _ _; (refine call_wrD (i := 0) (fun p => [p, n.bias.val, .func (.func 103) #[p] #[]]) (fun ρ b hb => by simp [SV.rfs, SV.rf, hb, add_none]) _ (by repeat (first | exact List.mem_cons_self | apply List.mem_cons_of_mem)) Try.call104 (fun R w' b F' hS hR h => wrow_any w' b F' _ n.bias hn.bias ((intsA n.bias).mono (restF_holds hdB hS) hR) (by first | omega | (simp only [List.length_append, beL_length, flat_len, rowBytes_len, List.length_take]; omega)) h) ?_)) | (show Wp _ _ _ _ _ _ _; (refine Wp.go tabOk rfl ?_)) | (show @cmpK _ _ _; (first | refine cmp_yes (by omega) ?_ | refine cmp_no (by omega) ?_ | (refine cmp_both ?_ ?_ <;> intro _))) | (show wrapK _ _ _; (refine wrap_i64 (by omega) (by omega) ?_)) | (show leK _ _ _; (refine le_of (by first | exact Nat.le_refl _ | omega) ?_)) | (show roomK _ _ _; (refine room_of (by first | omega | (dsimp only; omega)) ?_)) | (show ltK _ _ _; (refine lt_of (by omega) ?_)) | (show _ ∧ _; (refine ⟨?_, ?_⟩)) | (show keepK _ _ _ _ _; (refine keep_of (by first | exact List.Sublist.refl _ | exact List.Sublist.cons _ (List.Sublist.refl _) | exact List.Sublist.cons _ (List.Sublist.cons _ (List.Sublist.refl _)) | exact List.Sublist.cons _ (List.Sublist.cons _ (List.Sublist.cons _ (List.Sublist.refl _)))) (by first | exact (fun _ _ h => h) | exact (fun _ _ h => h.1) | exact (fun _ _ h => h.1.1)) ?_)) | (show ownK _ _ _ _ _; (refine own_keep ?_))))
    conv => whnf
    refine wr_fin (bs := bs ++ nodeBytes n.pl) (fun _ => rfl) ?_ (fun _ _ h => h)
    have e : bs ++ nodeBytes n.pl = bs ++ beL n.kind 1 ++ beL n.a 1 ++ beL n.b 1 ++ beL n.shape.xs.length 1 ++ (n.shape.xs.flatMap fun v => beL v 1) ++ beL n.lo 4 ++ beL n.hi 4 ++ beL n.size 1 ++ rowBytes n.data.xs ++ rowBytes n.bias.xs := by unfold nodeBytes; simp only [List.append_assoc]; rfl
    rw [e]
    exact (by repeat (first | exact List.mem_cons_self | apply List.mem_cons_of_mem))
end Go.Proofs.Ytajbngkcgbehlaa
/- ST -/
namespace Go.Proofs.Ytajbngkcgbehlaa
open Go.SX Go.RowKit
theorem ok_data {w : World} {t : IntsV} (h : t.ok w) : (intsA t).holds (fun b => b < w.heap.size) w := by
  refine ⟨fun r hr => ?_, ?_⟩
  · simp only [ints, List.mem_map] at hr
    obtain ⟨x, _, rfl⟩ := hr
    exact ⟨rfl, fun v hv => by simp at hv; subst hv; rfl⟩
  rcases h.rows with h0 | ⟨a, ha, hc⟩
  · exact .inl h0
  · cases hl : t.xs with
    | nil => exact .inl rfl
    | cons x r =>
      have h1 : w.cell? (a.add (0 * 1 + 0)) = some (.int .i64 x) := hc 0 [.int .i64 x] (by rw [hl]; rfl) 0 _ rfl
      have h2 : a.add (0 * 1 + 0) = a := by simp [Addr.add]
      rw [h2] at h1
      have ea := addr_plainR h1
      refine .inr ⟨a.block, a.off, by rw [ha, ← ea], cell_block h1, fun i q hi j v hj => ?_⟩
      have := hc i q (by rw [hl]; exact hi) j v hj
      rw [ea, add_none] at this
      exact this
theorem base_data {w w' : World} {R : Nat → Prop} {D : Asn} (h : D.holds (fun b => b < w.heap.size) w) (hb : (baseA w).holds R w') : D.holds R w' :=
  D.stable (fun b hb' => (hb b hb').1) (fun b hb' => (hb b hb').2) h
theorem node_data {w w' : World} {R : Nat → Prop} {n : NodeV} (h : n.ok w) (hb : (baseA w).holds R w') : (nodeD n false).holds R w' :=
  ⟨fun _ => base_data (ok_data h.shape) hb, base_data (ok_data h.data) hb, base_data (ok_data h.bias) hb⟩
theorem NodeV.ok.saneR {w : World} {n : NodeV} (h : n.ok w) : n.sane := ⟨h.shape.sane, h.data.sane, h.bias.sane, h.kindFits, h.aFits, h.bFits, h.loFits, h.hiFits, h.sizeFits⟩
def nodesBytes (l : List NodeV) : List Int := l.flatMap fun n => nodeBytes n.pl
theorem nodesBytes_len : ∀ {l : List NodeV}, (∀ n ∈ l, fewN n = true) → (nodesBytes l).length ≤ l.length * 20837
  | [], _ => Nat.le_refl _
  | n :: r, h => by
    have h1 := nodesBytes_len (fun m hm => h m (List.mem_cons_of_mem _ hm))
    have h2 : n.data.xs.length ≤ 5000 ∧ n.bias.xs.length ≤ 200 ∧ n.shape.xs.length ≤ 20 := by simpa [fewN] using h n List.mem_cons_self
    have h3 : (nodeBytes n.pl).length = 4 + n.shape.xs.length + 9 + (2 + n.data.xs.length * 4) + (2 + n.bias.xs.length * 4) := nodeBytes_len n.pl
    show (nodeBytes n.pl ++ nodesBytes r).length ≤ _
    rw [List.length_append, List.length_cons, Nat.succ_mul]
    omega
theorem nodesBytes_snoc {l : List NodeV} {j : Nat} (h : j < l.length) : nodesBytes (l.take (j + 1)) = nodesBytes (l.take j) ++ nodeBytes l[j].pl := by
  unfold nodesBytes; rw [List.take_succ_eq_append_getElem h, List.flatMap_append]; simp
theorem graphBytes_eq (g : GraphV) : graphBytes (g.l.map NodeV.pl) g.out = [6] ++ beL g.l.length 1 ++ nodesBytes g.l ++ beL g.out 1 := by
  unfold graphBytes nodesBytes
  rw [List.length_map, List.flatMap_map]
def WGPost (w : World) (g : GraphV) (e : Ending) (w' : World) : Prop :=
  ((check g).1 = 0 ∧ ∃ v, e = .returned (.tuple #[v, .int .i64 0]) ∧ Ext w w' ∧ NewRows w w' v 1 5 (byts (graphBytes (g.l.map NodeV.pl) g.out))) ∨ ((check g).1 ≠ 0 ∧ e = .returned (.tuple #[.slice none 0 0, .int .i64 (check g).1]) ∧ Ext w w')
theorem wg_bad {B : Base} {v : SV} {H : Heap} {S : Asn} {nx : Nat} {w : World} {g : GraphV} (hb : ∀ R w', S.holds R w' → (baseA B.w0).holds R w') (hw0 : B.w0 = w) (hn : (check g).1 ≠ 0) (hv : ∀ ρ, v.rf ρ = .tuple #[.slice none 0 0, .int .i64 (check g).1]) : finK B v H S nx (WGPost w g) := by
  subst hw0
  exact fin_of fun ρ w' hw => .inr ⟨hn, by rw [hv], ext_of_abs hw hb⟩
theorem wg_good {B : Base} {i n : Nat} {bs : List Int} {H : Heap} {S : Asn} {nx : Nat} {w : World} {g : GraphV} (hb : ∀ R w', S.holds R w' → (baseA B.w0).holds R w') (hw0 : B.w0 = w) (hg : (check g).1 = 0) (he : (i, Ent.rows (byts bs) 1 5) ∈ H) (hn : n = bs.length) (hbs : bs = graphBytes (g.l.map NodeV.pl) g.out) : finK B (.tup [.os i n, .c (.int .i64 0)]) H S nx (WGPost w g) := by
  subst hw0 hn hbs
  refine fin_of fun ρ w' hw => .inl ⟨hg, _, rfl, ext_of_abs hw hb, ?_⟩
  have hh := new_of_abs hw hb he
  rw [byts_length] at hh
  exact hh
set_option maxRecDepth 20000 in
theorem wgraph_any (w : World) (g : GraphV) (hg : g.ok w) (hfew : fewB g = true) : Calls Try.prog 31 #[g.val] w (WGPost w g) := by
  have hl40 : g.l.length ≤ 40 := by unfold fewB at hfew; simp only [Bool.and_eq_true, decide_eq_true_eq] at hfew; exact hfew.1
  have hall : ∀ n ∈ g.l, fewN n = true := by unfold fewB at hfew; simp only [Bool.and_eq_true, List.all_eq_true] at hfew; exact hfew.2
  refine calls_of tab tabOk Try.func31 rfl rfl rfl [] (fun _ => ⟨none, 0⟩) [.agg [.c (.slice g.base g.l.length g.cap), .c (.int .i64 g.out)]] [] (baseA w) 0 rfl rfl (by show 1 ≤ _; decide) (abs_base w) ?_
  (repeat' ((conv => whnf) <;> first | (show Wp _ _ _ _ _ _ _; (refine Wp.go tabOk rfl ?_)) | (show @cmpK _ _ _; (first | refine cmp_yes (by omega) ?_ | refine cmp_no (by omega) ?_ | (refine cmp_both ?_ ?_ <;> intro _))) | (show wrapK _ _ _; (refine wrap_i64 (by omega) (by omega) ?_)) | (show leK _ _ _; (refine le_of (by first | exact Nat.le_refl _ | omega) ?_)) | (show roomK _ _ _; (refine room_of (by first | omega | (dsimp only; omega)) ?_)) | (show ltK _ _ _; (refine lt_of (by omega) ?_)) | (show _ ∧ _; (refine ⟨?_, ?_⟩)) | (show keepK _ _ _ _ _; (refine keep_of (by first | exact List.Sublist.refl _ | exact List.Sublist.cons _ (List.Sublist.refl _) | exact List.Sublist.cons _ (List.Sublist.cons _ (List.Sublist.refl _)) | exact List.Sublist.cons _ (List.Sublist.cons _ (List.Sublist.cons _ (List.Sublist.refl _)))) (by first | exact (fun _ _ h => h) | exact (fun _ _ h => h.1) | exact (fun _ _ h => h.1.1)) ?_)) | (show ownK _ _ _ _ _; (refine own_keep ?_))))
  refine call_check (f := 17) (check g) Try.call17 (fun ρ w' hw => check_any w' g (holds_of_abs hw fun R h => hg.later h)) (fun hne => ?_) (fun he sv _ _ => ?_)
  · (repeat' ((conv => whnf) <;> first | (show @cmpK _ _ _; (refine cmp_yes hne ?_)) | (show Wp _ _ _ _ _ _ _; (refine Wp.go tabOk rfl ?_)) | (show @cmpK _ _ _; (first | refine cmp_yes (by omega) ?_ | refine cmp_no (by omega) ?_ | (refine cmp_both ?_ ?_ <;> intro _))) | (show wrapK _ _ _; (refine wrap_i64 (by omega) (by omega) ?_)) | (show leK _ _ _; (refine le_of (by first | exact Nat.le_refl _ | omega) ?_)) | (show roomK _ _ _; (refine room_of (by first | omega | (dsimp only; omega)) ?_)) | (show ltK _ _ _; (refine lt_of (by omega) ?_)) | (show _ ∧ _; (refine ⟨?_, ?_⟩)) | (show keepK _ _ _ _ _; (refine keep_of (by first | exact List.Sublist.refl _ | exact List.Sublist.cons _ (List.Sublist.refl _) | exact List.Sublist.cons _ (List.Sublist.cons _ (List.Sublist.refl _)) | exact List.Sublist.cons _ (List.Sublist.cons _ (List.Sublist.cons _ (List.Sublist.refl _)))) (by first | exact (fun _ _ h => h) | exact (fun _ _ h => h.1) | exact (fun _ _ h => h.1.1)) ?_)) | (show ownK _ _ _ _ _; (refine own_keep ?_))))
    conv => whnf
    exact wg_bad (fun _ _ h => h) rfl hne (fun _ => rfl)
  · (repeat' ((conv => whnf) <;> first | (show @cmpK _ _ _; (first | refine cmp_yes (by omega) ?_ | refine cmp_no (by omega) ?_ | (refine cmp_both ?_ ?_ <;> intro _))) | (show wrapK _ _ _; (refine wrap_i64 (by omega) (by omega) ?_)) | (show leK _ _ _; (refine le_of (by first | exact Nat.le_refl _ | omega) ?_)) | (show roomK _ _ _; (refine room_of (by first | omega | (dsimp only; omega)) ?_)) | (show ltK _ _ _; (refine lt_of (by omega) ?_)) | (show _ ∧ _; (refine ⟨?_, ?_⟩)) | (show keepK _ _ _ _ _; (refine keep_of (by first | exact List.Sublist.refl _ | exact List.Sublist.cons _ (List.Sublist.refl _) | exact List.Sublist.cons _ (List.Sublist.cons _ (List.Sublist.refl _)) | exact List.Sublist.cons _ (List.Sublist.cons _ (List.Sublist.cons _ (List.Sublist.refl _)))) (by first | exact (fun _ _ h => h) | exact (fun _ _ h => h.1) | exact (fun _ _ h => h.1.1)) ?_)) | (show ownK _ _ _ _ _; (refine own_keep ?_))))
    refine Wp.go tabOk rfl ?_
    (repeat' ((conv => whnf) <;> first | (show @cmpK _ _ _; (first | refine cmp_yes (by omega) ?_ | refine cmp_no (by omega) ?_ | (refine cmp_both ?_ ?_ <;> intro _))) | (show wrapK _ _ _; (refine wrap_i64 (by omega) (by omega) ?_)) | (show leK _ _ _; (refine le_of (by first | exact Nat.le_refl _ | omega) ?_)) | (show roomK _ _ _; (refine room_of (by first | omega | (dsimp only; omega)) ?_)) | (show ltK _ _ _; (refine lt_of (by omega) ?_)) | (show _ ∧ _; (refine ⟨?_, ?_⟩)) | (show keepK _ _ _ _ _; (refine keep_of (by first | exact List.Sublist.refl _ | exact List.Sublist.cons _ (List.Sublist.refl _) | exact List.Sublist.cons _ (List.Sublist.cons _ (List.Sublist.refl _)) | exact List.Sublist.cons _ (List.Sublist.cons _ (List.Sublist.cons _ (List.Sublist.refl _)))) (by first | exact (fun _ _ h => h) | exact (fun _ _ h => h.1) | exact (fun _ _ h => h.1.1)) ?_)) | (show ownK _ _ _ _ _; (refine own_keep ?_))))
    refine Wp.go tabOk rfl ?_
    (repeat' ((conv => whnf) <;> first | (show @cmpK _ _ _; (first | refine cmp_yes (by omega) ?_ | refine cmp_no (by omega) ?_ | (refine cmp_both ?_ ?_ <;> intro _))) | (show wrapK _ _ _; (refine wrap_i64 (by omega) (by omega) ?_)) | (show leK _ _ _; (refine le_of (by first | exact Nat.le_refl _ | omega) ?_)) | (show roomK _ _ _; (refine room_of (by first | omega | (dsimp only; omega)) ?_)) | (show ltK _ _ _; (refine lt_of (by omega) ?_)) | (show _ ∧ _; (refine ⟨?_, ?_⟩)) | (show keepK _ _ _ _ _; (refine keep_of (by first | exact List.Sublist.refl _ | exact List.Sublist.cons _ (List.Sublist.refl _) | exact List.Sublist.cons _ (List.Sublist.cons _ (List.Sublist.refl _)) | exact List.Sublist.cons _ (List.Sublist.cons _ (List.Sublist.cons _ (List.Sublist.refl _)))) (by first | exact (fun _ _ h => h) | exact (fun _ _ h => h.1) | exact (fun _ _ h => h.1.1)) ?_)) | (show ownK _ _ _ _ _; (refine own_keep ?_))))
    refine Wp.go tabOk rfl ?_
    (repeat' ((conv => whnf) <;> first | (show @cmpK _ _ _; (first | refine cmp_yes (by omega) ?_ | refine cmp_no (by omega) ?_ | (refine cmp_both ?_ ?_ <;> intro _))) | (show wrapK _ _ _; (refine wrap_i64 (by omega) (by omega) ?_)) | (show leK _ _ _; (refine le_of (by first | exact Nat.le_refl _ | omega) ?_)) | (show roomK _ _ _; (refine room_of (by first | omega | (dsimp only; omega)) ?_)) | (show ltK _ _ _; (refine lt_of (by omega) ?_)) | (show _ ∧ _; (refine ⟨?_, ?_⟩)) | (show keepK _ _ _ _ _; (refine keep_of (by first | exact List.Sublist.refl _ | exact List.Sublist.cons _ (List.Sublist.refl _) | exact List.Sublist.cons _ (List.Sublist.cons _ (List.Sublist.refl _)) | exact List.Sublist.cons _ (List.Sublist.cons _ (List.Sublist.cons _ (List.Sublist.refl _)))) (by first | exact (fun _ _ h => h) | exact (fun _ _ h => h.1) | exact (fun _ _ h => h.1.1)) ?_)) | (show ownK _ _ _ _ _; (refine own_keep ?_))))
    conv => whnf
    refine Wp.pack 2 1 (T := 86) (TE := 5) (k := 1) (n := 1) (xs := byts [6]) (by repeat (first | exact List.mem_cons_self | apply List.mem_cons_of_mem)) (by repeat (first | exact List.mem_cons_self | apply List.mem_cons_of_mem)) rfl (by decide) ?_
    (repeat' ((conv => whnf) <;> first | (show callK _ 71 _ _ _ _ _; (refine call_wr (i := 2) [.int .i64 _] _ (by repeat (first | exact List.mem_cons_self | apply List.mem_cons_of_mem)) Try.call71 (fun w b F h => wone_any w b F _ _ (by exact Nat.le_of_ble_eq_true rfl) h) ?_)) | (show Wp _ _ _ _ _ _ _; (refine Wp.go tabOk rfl ?_)) | (show @cmpK _ _ _; (first | refine cmp_yes (by omega) ?_ | refine cmp_no (by omega) ?_ | (refine cmp_both ?_ ?_ <;> intro _))) | (show wrapK _ _ _; (refine wrap_i64 (by omega) (by omega) ?_)) | (show leK _ _ _; (refine le_of (by first | exact Nat.le_refl _ | omega) ?_)) | (show roomK _ _ _; (refine room_of (by first | omega | (dsimp only; omega)) ?_)) | (show ltK _ _ _; (refine lt_of (by omega) ?_)) | (show _ ∧ _; (refine ⟨?_, ?_⟩)) | (show keepK _ _ _ _ _; (refine keep_of (by first | exact List.Sublist.refl _ | exact List.Sublist.cons _ (List.Sublist.refl _) | exact List.Sublist.cons _ (List.Sublist.cons _ (List.Sublist.refl _)) | exact List.Sublist.cons _ (List.Sublist.cons _ (List.Sublist.cons _ (List.Sublist.refl _)))) (by first | exact (fun _ _ h => h) | exact (fun _ _ h => h.1) | exact (fun _ _ h => h.1.1)) ?_)) | (show ownK _ _ _ _ _; (refine own_keep ?_))))
    refine Wp.loop (σ := Nat) 3 (fun j => [(6, .lp 2 0 0 0), (1, .lp 0 0 0 0), (26, .c (.slice g.base g.l.length g.cap)), (27, .c (.int .i64 g.l.length)), (28, .c (.int .i64 j))]) (fun j => [(0, .box [.c (.slice g.base g.l.length g.cap), .c (.int .i64 g.out)] 24), (2, .ext (sliceO 86 5 1 (byts ([6] ++ beL g.l.length 1 ++ nodesBytes (g.l.take j)))))]) (fun _ => baseA w)
      (fun j => j ≤ g.l.length) (fun j => g.l.length - j) 0 [] (by decide) (fun s => ⟨rfl, rfl⟩) (Nat.zero_le _) ⟨rfl, ⟨rfl, rfl, rfl, rfl, rfl, trivial⟩, ⟨(by repeat (first | exact List.mem_cons_self | apply List.mem_cons_of_mem)), (by repeat (first | exact List.mem_cons_self | apply List.mem_cons_of_mem)), trivial⟩, fun _ _ h => h.1⟩ ?_
    rintro j hj
    by_cases hlt : j < g.l.length
    · obtain ⟨a, ha⟩ : ∃ a, g.base = some a := base_some (j := j) hg.rows (by rw [nodeRows_length]; omega)
      have hrow := nodeRows_get hlt
      have hnm := List.getElem_mem hlt
      have hsn := nodesBytes_snoc hlt
      have hnb := nodesBytes_len (l := g.l.take j) (fun m hm => hall m (List.mem_of_mem_take hm))
      rw [List.length_take, Nat.min_eq_left hj] at hnb
      have hn1 := nodesBytes_len (l := [g.l[j]]) (fun m hm => by rw [List.mem_singleton.1 hm]; exact hall _ hnm)
      have hn2 : (nodeBytes g.l[j].pl).length ≤ 20837 := by simpa [nodesBytes] using hn1
      have hlen : ([6] ++ beL g.l.length 1 ++ nodesBytes (g.l.take j)).length + (nodeBytes g.l[j].pl).length ≤ 1000000 := by
        simp only [List.length_append, beL_length, List.length_singleton]
        have : j * 20837 ≤ 40 * 20837 := Nat.mul_le_mul_right _ (by omega)
        omega
      generalize g.l[j] = n at *
      have hn := hg.each n hnm
      (repeat' ((conv => whnf) <;> first | (show idxK _ _ _ _ _; (refine idx_of a j ha rfl hlt ?_)) | (show roAggK _ _ _ _; (refine roAgg_row (fun R w' h => by rw [← ha]; exact rows_base h hg.rows) _ hrow rfl ?_)) | (show callK _ 72 _ _ _ _ _; (refine call_wrD (i := 2) (fun p => [p, n.valA]) (fun ρ b hb => by simp [SV.rfs, SV.rf, hb, add_none, NodeV.valA, NodeV.cells]) _ (by repeat (first | exact List.mem_cons_self | apply List.mem_cons_of_mem)) Try.call72 (fun R w' b F' hS hR h => wnode_any w' b F' _ n hn.saneR ((nodeD n false).mono (node_data hn hS) hR) hlen h) ?_)) | (show Wp _ _ _ _ _ _ _; (refine Wp.go tabOk rfl ?_)) | (show @cmpK _ _ _; (first | refine cmp_yes (by omega) ?_ | refine cmp_no (by omega) ?_ | (refine cmp_both ?_ ?_ <;> intro _))) | (show wrapK _ _ _; (refine wrap_i64 (by omega) (by omega) ?_)) | (show leK _ _ _; (refine le_of (by first | exact Nat.le_refl _ | omega) ?_)) | (show roomK _ _ _; (refine room_of (by first | omega | (dsimp only; omega)) ?_)) | (show ltK _ _ _; (refine lt_of (by omega) ?_)) | (show _ ∧ _; (refine ⟨?_, ?_⟩)) | (show keepK _ _ _ _ _; (refine keep_of (by first | exact List.Sublist.refl _ | exact List.Sublist.cons _ (List.Sublist.refl _) | exact List.Sublist.cons _ (List.Sublist.cons _ (List.Sublist.refl _)) | exact List.Sublist.cons _ (List.Sublist.cons _ (List.Sublist.cons _ (List.Sublist.refl _)))) (by first | exact (fun _ _ h => h) | exact (fun _ _ h => h.1) | exact (fun _ _ h => h.1.1)) ?_)) | (show ownK _ _ _ _ _; (refine own_keep ?_))))
      conv => whnf
      exact ⟨j + 1, [], hlt, by omega, rfl, ⟨rfl, rfl, rfl, rfl, rfl, trivial⟩, ⟨(by repeat (first | exact List.mem_cons_self | apply List.mem_cons_of_mem)), by rw [hsn, ← List.append_assoc]; exact (by repeat (first | exact List.mem_cons_self | apply List.mem_cons_of_mem)), trivial⟩, fun _ _ h => h⟩
    · obtain rfl : j = g.l.length := by omega
      rw [List.take_of_length_le (Nat.le_refl _)]
      have hnb := nodesBytes_len (l := g.l) hall
      (repeat' ((conv => whnf) <;> first | (show Wp _ _ _ _ _ _ _; (refine Wp.go tabOk rfl ?_)) | (show @cmpK _ _ _; (first | refine cmp_yes (by omega) ?_ | refine cmp_no (by omega) ?_ | (refine cmp_both ?_ ?_ <;> intro _))) | (show wrapK _ _ _; (refine wrap_i64 (by omega) (by omega) ?_)) | (show leK _ _ _; (refine le_of (by first | exact Nat.le_refl _ | omega) ?_)) | (show roomK _ _ _; (refine room_of (by first | omega | (dsimp only; omega)) ?_)) | (show ltK _ _ _; (refine lt_of (by omega) ?_)) | (show _ ∧ _; (refine ⟨?_, ?_⟩)) | (show keepK _ _ _ _ _; (refine keep_of (by first | exact List.Sublist.refl _ | exact List.Sublist.cons _ (List.Sublist.refl _) | exact List.Sublist.cons _ (List.Sublist.cons _ (List.Sublist.refl _)) | exact List.Sublist.cons _ (List.Sublist.cons _ (List.Sublist.cons _ (List.Sublist.refl _)))) (by first | exact (fun _ _ h => h) | exact (fun _ _ h => h.1) | exact (fun _ _ h => h.1.1)) ?_)) | (show ownK _ _ _ _ _; (refine own_keep ?_))))
      refine call_wr (i := 2) [.int .i64 g.out] _ (by repeat (first | exact List.mem_cons_self | apply List.mem_cons_of_mem)) Try.call71 (fun w b F h => wone_any w b F _ _ (by
        simp only [List.length_append, beL_length, List.length_singleton]
        have : g.l.length * 20837 ≤ 40 * 20837 := Nat.mul_le_mul_right _ (by omega)
        omega) h) ?_
      (repeat' ((conv => whnf) <;> first | (show @cmpK _ _ _; (first | refine cmp_yes (by omega) ?_ | refine cmp_no (by omega) ?_ | (refine cmp_both ?_ ?_ <;> intro _))) | (show wrapK _ _ _; (refine wrap_i64 (by omega) (by omega) ?_)) | (show leK _ _ _; (refine le_of (by first | exact Nat.le_refl _ | omega) ?_)) | (show roomK _ _ _; (refine room_of (by first | omega | (dsimp only; omega)) ?_)) | (show ltK _ _ _; (refine lt_of (by omega) ?_)) | (show _ ∧ _; (refine ⟨?_, ?_⟩)) | (show keepK _ _ _ _ _; (refine keep_of (by first | exact List.Sublist.refl _ | exact List.Sublist.cons _ (List.Sublist.refl _) | exact List.Sublist.cons _ (List.Sublist.cons _ (List.Sublist.refl _)) | exact List.Sublist.cons _ (List.Sublist.cons _ (List.Sublist.cons _ (List.Sublist.refl _)))) (by first | exact (fun _ _ h => h) | exact (fun _ _ h => h.1) | exact (fun _ _ h => h.1.1)) ?_)) | (show ownK _ _ _ _ _; (refine own_keep ?_))))
      refine Wp.unpack 2 (by repeat (first | exact List.mem_cons_self | apply List.mem_cons_of_mem)) ?_
      (repeat' ((conv => whnf) <;> first | (show Wp _ _ _ _ _ _ _; (refine Wp.go tabOk rfl ?_)) | (show @cmpK _ _ _; (first | refine cmp_yes (by omega) ?_ | refine cmp_no (by omega) ?_ | (refine cmp_both ?_ ?_ <;> intro _))) | (show wrapK _ _ _; (refine wrap_i64 (by omega) (by omega) ?_)) | (show leK _ _ _; (refine le_of (by first | exact Nat.le_refl _ | omega) ?_)) | (show roomK _ _ _; (refine room_of (by first | omega | (dsimp only; omega)) ?_)) | (show ltK _ _ _; (refine lt_of (by omega) ?_)) | (show _ ∧ _; (refine ⟨?_, ?_⟩)) | (show keepK _ _ _ _ _; (refine keep_of (by first | exact List.Sublist.refl _ | exact List.Sublist.cons _ (List.Sublist.refl _) | exact List.Sublist.cons _ (List.Sublist.cons _ (List.Sublist.refl _)) | exact List.Sublist.cons _ (List.Sublist.cons _ (List.Sublist.cons _ (List.Sublist.refl _)))) (by first | exact (fun _ _ h => h) | exact (fun _ _ h => h.1) | exact (fun _ _ h => h.1.1)) ?_)) | (show ownK _ _ _ _ _; (refine own_keep ?_))))
      conv => whnf
      exact wg_good (fun _ _ h => h) rfl he (by repeat (first | exact List.mem_cons_self | apply List.mem_cons_of_mem)) (byts_length _) (graphBytes_eq g).symm
end Go.Proofs.Ytajbngkcgbehlaa
/- SU -/
namespace Go.Proofs.Ytajbngkcgbehlaa
open Go.SX Go.RowKit
theorem beL_one (v : Int) : beL v 1 = [v % 256] := by simp [beL]
theorem beL_dword (v : Int) : beL (v % 4294967296) 4 = beL v 4 := by
  simp only [beL, List.cons.injEq, and_true]
  refine ⟨?_, ?_, ?_, ?_⟩
  · show v % 4294967296 / 16777216 % 256 = v / 16777216 % 256; omega
  · show v % 4294967296 / 65536 % 256 = v / 65536 % 256; omega
  · show v % 4294967296 / 256 % 256 = v / 256 % 256; omega
  · show v % 4294967296 / 1 % 256 = v / 1 % 256; omega
theorem wrap_dword {z : Int} {K : Int → Prop} (h : K (z % 4294967296)) : wrapK .u32 z K := by
  refine wrap_to ?_ h
  simp only [IntKind.wrap, IntKind.signed, IntKind.bits, Bool.false_and]
  have : (2 : Int) ^ 32 = 4294967296 := by decide
  simp only [this]
  simp
theorem bytes_end {B : Base} {i n : Nat} {bs cs : List Int} {H : Heap} {S : Asn} {nx : Nat} {w : World} (hb : ∀ R w', S.holds R w' → (baseA B.w0).holds R w') (hw0 : B.w0 = w) (he : (i, Ent.rows (byts bs) 1 5) ∈ H) (hn : n = bs.length) (hbs : bs = cs) : finK B (.os i n) H S nx (BytesPost w cs) := by
  subst hw0 hn hbs
  refine fin_of fun ρ w' hw => ⟨(), trivial, _, rfl, ext_of_abs hw hb, ?_⟩
  have hh := new_of_abs hw hb he
  rw [byts_length] at hh
  exact hh
theorem rsig_any (w : World) (v : Int) : Calls Try.prog 73 #[.int .i64 v] w (BytesPost w (beL v 4)) := by
  refine calls_of tab tabOk Try.func73 rfl rfl rfl [] (fun _ => ⟨none, 0⟩) [.c (.int .i64 v)] [] (baseA w) 0 rfl rfl (by show 1 ≤ _; decide) (abs_base w) ?_
  have h0 : 0 ≤ v % 4294967296 := Int.emod_nonneg _ (by decide)
  have h1 : v % 4294967296 < 4294967296 := Int.emod_lt_of_pos _ (by decide)
  (repeat' ((conv => whnf) <;> first | (show wrapK _ _ _; (first | refine wrap_u64 h0 (by omega) ?_ | refine wrap_dword ?_)) | (show callK _ 55 _ _ _ _ _; (refine call_new (f := 55) Try.call55 1 5 (fun _ : Unit => byts (beL v 4)) (fun _ => True) (fun ρ w' hw => by have := num_any w' (v % 4294967296) 4 (by decide) h0; rw [beL_dword] at this; exact this) (fun _ _ => ?_))) | (show Wp _ _ _ _ _ _ _; (refine Wp.go tabOk rfl ?_)) | (show @cmpK _ _ _; (first | refine cmp_yes (by omega) ?_ | refine cmp_no (by omega) ?_ | (refine cmp_both ?_ ?_ <;> intro _))) | (show wrapK _ _ _; (refine wrap_i64 (by omega) (by omega) ?_)) | (show leK _ _ _; (refine le_of (by first | exact Nat.le_refl _ | omega) ?_)) | (show roomK _ _ _; (refine room_of (by first | omega | (dsimp only; omega)) ?_)) | (show ltK _ _ _; (refine lt_of (by omega) ?_)) | (show _ ∧ _; (refine ⟨?_, ?_⟩)) | (show keepK _ _ _ _ _; (refine keep_of (by first | exact List.Sublist.refl _ | exact List.Sublist.cons _ (List.Sublist.refl _) | exact List.Sublist.cons _ (List.Sublist.cons _ (List.Sublist.refl _)) | exact List.Sublist.cons _ (List.Sublist.cons _ (List.Sublist.cons _ (List.Sublist.refl _)))) (by first | exact (fun _ _ h => h) | exact (fun _ _ h => h.1) | exact (fun _ _ h => h.1.1)) ?_)) | (show ownK _ _ _ _ _; (refine own_keep ?_))))
  conv => whnf
  exact bytes_end (fun _ _ h => h) rfl List.mem_cons_self (byts_length _) rfl
theorem call_byts {B : Base} {m : Nat} {f : FuncId} {args : List SV} {H : Heap} {S : Asn} {nx : Nat} {K : SV → Heap → Asn → Nat → Prop} (bs : List Int) (hf : ∀ ar w, (callFunc f ar).run Try.prog w = .ok (.enter f ar) w)
    (hc : ∀ ρ w, Abs B ρ nx H S w → Calls Try.prog f (SV.rfs ρ args).toArray w (BytesPost w bs)) (h : K (.os nx bs.length) ((nx, .rows (byts bs) 1 5) :: H) S (nx + 1)) : callK ⟨Try.prog, B, m, tab⟩ f args H S nx K := by
  refine call_new hf 1 5 (fun _ : Unit => byts bs) (fun _ => True) hc (fun _ _ => ?_)
  rw [byts_length]
  exact h
theorem byts_cat {i n : Nat} {xs ys : List Int} {T : TypeId} {H : Heap} (hn : n = xs.length) : (i, Ent.rows (byts (xs ++ ys)) 1 T) ∈ (i, Ent.rows (List.take n (byts xs) ++ byts ys) 1 T) :: H := by
  subst hn
  rw [List.take_of_length_le (by rw [byts_length]; exact Nat.le_refl _), ← byts_append]
  exact List.mem_cons_self
set_option maxRecDepth 20000 in
theorem rrowb_any (w : World) (x : IntsV) (hx : x.ok w) (hl : x.xs.length ≤ 100000) : Calls Try.prog 74 #[x.val, .int .i64 4] w (BytesPost w (rowBytes x.xs)) := by
  refine calls_of tab tabOk Try.func74 rfl rfl rfl [] (fun _ => ⟨none, 0⟩) [.c x.val, .c (.int .i64 4)] [] (baseA w) 0 rfl rfl (by show 2 ≤ _; decide) (abs_base w) ?_
  (repeat' ((conv => whnf) <;> first | (show wrapK _ _ _; (refine wrap_u64 (by omega) (by omega) ?_)) | (show callK _ 55 _ _ _ _ _; (refine call_byts (f := 55) (beL x.xs.length 2) Try.call55 (fun ρ w' hw => num_any w' x.xs.length 2 (by decide) (by omega)) ?_)) | (show Wp _ _ _ _ _ _ _; (refine Wp.go tabOk rfl ?_)) | (show @cmpK _ _ _; (first | refine cmp_yes (by omega) ?_ | refine cmp_no (by omega) ?_ | (refine cmp_both ?_ ?_ <;> intro _))) | (show wrapK _ _ _; (refine wrap_i64 (by omega) (by omega) ?_)) | (show leK _ _ _; (refine le_of (by first | exact Nat.le_refl _ | omega) ?_)) | (show roomK _ _ _; (refine room_of (by first | omega | (dsimp only; omega)) ?_)) | (show ltK _ _ _; (refine lt_of (by omega) ?_)) | (show _ ∧ _; (refine ⟨?_, ?_⟩)) | (show keepK _ _ _ _ _; (refine keep_of (by first | exact List.Sublist.refl _ | exact List.Sublist.cons _ (List.Sublist.refl _) | exact List.Sublist.cons _ (List.Sublist.cons _ (List.Sublist.refl _)) | exact List.Sublist.cons _ (List.Sublist.cons _ (List.Sublist.cons _ (List.Sublist.refl _)))) (by first | exact (fun _ _ h => h) | exact (fun _ _ h => h.1) | exact (fun _ _ h => h.1.1)) ?_)) | (show ownK _ _ _ _ _; (refine own_keep ?_))))
  refine Wp.loop (σ := Nat × Nat) 2 (fun ⟨j, m⟩ => [(1, .c (.int .i64 4)), (5, .os 1 m), (12, .c x.val), (13, .c (.int .i64 x.xs.length)), (14, .c (.int .i64 j))]) (fun ⟨j, m⟩ => [(1, .rows (byts (beL x.xs.length 2 ++ (x.xs.take j).flatMap fun v => beL v 4)) 1 5)]) (fun _ => baseA w)
    (fun ⟨j, m⟩ => j ≤ x.xs.length ∧ m = (beL x.xs.length 2 ++ (x.xs.take j).flatMap fun v => beL v 4).length) (fun s => x.xs.length - s.1) (0, 2) [(1, some 0)] (by decide) (fun s => ⟨rfl, rfl⟩) ⟨Nat.zero_le _, rfl⟩ ⟨rfl, ⟨rfl, rfl, rfl, rfl, rfl, trivial⟩, ⟨by rw [List.take_zero, List.flatMap_nil, List.append_nil]; exact List.mem_cons_self, trivial⟩, fun _ _ h => h⟩ ?_
  rintro ⟨j, m⟩ ⟨hj, hm⟩
  by_cases hlt : j < x.xs.length
  · obtain ⟨a, hba⟩ : ∃ a, x.base = some a := base_some (j := j) hx.rows (by rw [ints_length]; exact hlt)
    have hget := ints_get hlt
    have hsn := flat_snoc (k := 4) hlt
    have hfl := flat_take_len x.xs j 4 hj
    have hmv : m = 2 + j * 4 := by rw [hm, List.length_append, beL_length, hfl]
    generalize x.xs[j] = v at *
    (repeat' ((conv => whnf) <;> first | (show idxK _ _ _ _ _; (refine idx_of a j hba rfl hlt ?_)) | (show roK _ _ _; (refine ro_row0 (fun R w' h => by rw [← hba]; exact rows_base h hx.rows) _ _ hget rfl ?_)) | (show callK _ 73 _ _ _ _ _; (refine call_byts (f := 73) (beL v 4) Try.call73 (fun ρ w' hw => rsig_any w' v) ?_)) | (show leK _ _ _; (refine le_of (by rw [byts_length]; first | exact Nat.le_of_eq hm | exact Nat.le_refl _) ?_)) | (show roomK _ _ _; (refine room_of (by show (m + 4) * 1 ≤ 140737488355328; omega) ?_)) | (show Wp _ _ _ _ _ _ _; (refine Wp.go tabOk rfl ?_)) | (show @cmpK _ _ _; (first | refine cmp_yes (by omega) ?_ | refine cmp_no (by omega) ?_ | (refine cmp_both ?_ ?_ <;> intro _))) | (show wrapK _ _ _; (refine wrap_i64 (by omega) (by omega) ?_)) | (show leK _ _ _; (refine le_of (by first | exact Nat.le_refl _ | omega) ?_)) | (show roomK _ _ _; (refine room_of (by first | omega | (dsimp only; omega)) ?_)) | (show ltK _ _ _; (refine lt_of (by omega) ?_)) | (show _ ∧ _; (refine ⟨?_, ?_⟩)) | (show keepK _ _ _ _ _; (refine keep_of (by first | exact List.Sublist.refl _ | exact List.Sublist.cons _ (List.Sublist.refl _) | exact List.Sublist.cons _ (List.Sublist.cons _ (List.Sublist.refl _)) | exact List.Sublist.cons _ (List.Sublist.cons _ (List.Sublist.cons _ (List.Sublist.refl _)))) (by first | exact (fun _ _ h => h) | exact (fun _ _ h => h.1) | exact (fun _ _ h => h.1.1)) ?_)) | (show ownK _ _ _ _ _; (refine own_keep ?_))))
    conv => whnf
    exact ⟨(j + 1, m + 4), [(1, some 3)], ⟨hlt, by rw [hsn, ← List.append_assoc, List.length_append, beL_length, hm]⟩, by simp only; omega, rfl, ⟨rfl, rfl, rfl, rfl, rfl, trivial⟩, ⟨by
      show (3, Ent.rows (byts (beL x.xs.length 2 ++ (x.xs.take (j + 1)).flatMap fun v => beL v 4)) 1 5) ∈ _
      rw [hsn, ← List.append_assoc]; exact byts_cat hm, trivial⟩, fun _ _ h => h⟩
  · obtain rfl : j = x.xs.length := by omega
    (repeat' ((conv => whnf) <;> first | (show Wp _ _ _ _ _ _ _; (refine Wp.go tabOk rfl ?_)) | (show @cmpK _ _ _; (first | refine cmp_yes (by omega) ?_ | refine cmp_no (by omega) ?_ | (refine cmp_both ?_ ?_ <;> intro _))) | (show wrapK _ _ _; (refine wrap_i64 (by omega) (by omega) ?_)) | (show leK _ _ _; (refine le_of (by first | exact Nat.le_refl _ | omega) ?_)) | (show roomK _ _ _; (refine room_of (by first | omega | (dsimp only; omega)) ?_)) | (show ltK _ _ _; (refine lt_of (by omega) ?_)) | (show _ ∧ _; (refine ⟨?_, ?_⟩)) | (show keepK _ _ _ _ _; (refine keep_of (by first | exact List.Sublist.refl _ | exact List.Sublist.cons _ (List.Sublist.refl _) | exact List.Sublist.cons _ (List.Sublist.cons _ (List.Sublist.refl _)) | exact List.Sublist.cons _ (List.Sublist.cons _ (List.Sublist.cons _ (List.Sublist.refl _)))) (by first | exact (fun _ _ h => h) | exact (fun _ _ h => h.1) | exact (fun _ _ h => h.1.1)) ?_)) | (show ownK _ _ _ _ _; (refine own_keep ?_))))
    conv => whnf
    refine bytes_end (fun _ _ h => h) rfl List.mem_cons_self hm ?_
    rw [List.take_of_length_le (Nat.le_refl _)]; rfl
theorem beL_four (a b c d : Int) : beL a 1 ++ beL b 1 ++ beL c 1 ++ beL d 1 = [a % 256, b % 256, c % 256, d % 256] := by simp [beL_one]
theorem own_cat {i n : Nat} {Q Z : List Int} {R2 : List (List Value)} {T : TypeId} {H : Heap} {S : Asn} {nx : Nat} {K : SV → Heap → Asn → Nat → Prop} (hq : n = Q.length) (hz : R2 = byts Z) (h : K (.os i (Q ++ Z).length) ((i, .rows (byts (Q ++ Z)) 1 T) :: H) S nx) : ownK (.os i (n + R2.length)) ((i, .rows (List.take n (byts Q) ++ R2) 1 T) :: H) S nx K := by
  subst hq hz
  refine own_keep ?_
  rw [byts_length, ← List.length_append, List.take_of_length_le (by rw [byts_length]; exact Nat.le_refl _), ← byts_append]
  exact h
theorem take_all {Z : List Int} {n : Nat} (h : n = Z.length) : List.take n (byts Z) = byts Z := List.take_of_length_le (by rw [byts_length, h]; exact Nat.le_refl _)
set_option maxRecDepth 20000 in
set_option maxHeartbeats 2000000 in
theorem rgraph_any (w : World) (g : GraphV) (hg : g.ok w) (hfew : fewB g = true) : Calls Try.prog 32 #[g.val] w (WGPost w g) := by
  have hl40 : g.l.length ≤ 40 := by unfold fewB at hfew; simp only [Bool.and_eq_true, decide_eq_true_eq] at hfew; exact hfew.1
  have hall : ∀ n ∈ g.l, fewN n = true := by unfold fewB at hfew; simp only [Bool.and_eq_true, List.all_eq_true] at hfew; exact hfew.2
  refine calls_of tab tabOk Try.func32 rfl rfl rfl [] (fun _ => ⟨none, 0⟩) [.agg [.c (.slice g.base g.l.length g.cap), .c (.int .i64 g.out)]] [] (baseA w) 0 rfl rfl (by show 1 ≤ _; decide) (abs_base w) ?_
  (repeat' ((conv => whnf) <;> first | (show drawK _ 14 _ _ _ _ _ _; (refine draw_tree tabOk mixed [] _ (.take 0 (.take 1 (.take 2 (.take 5 (.take 6 (.one 3 (.one 4 (.one 7 (.one 8 (.take 9 (.done))))))))))) (by kernel_rfl) (by kernel_rfl) (by kernel_rfl) (List.Sublist.refl _) ?_)) | (show drawK _ 16 _ _ _ _ _ _; (refine draw_tree tabOk mixed [] _ (.take 0 (.take 1 (.take 2 (.take 5 (.take 6 (.one 3 (.one 4 (.one 7 (.one 8 (.take 9 (.done))))))))))) (by kernel_rfl) (by kernel_rfl) (by kernel_rfl) (List.Sublist.refl _) ?_)) | (show Wp _ _ _ _ _ _ _; (refine Wp.go tabOk rfl ?_)) | (show @cmpK _ _ _; (first | refine cmp_yes (by omega) ?_ | refine cmp_no (by omega) ?_ | (refine cmp_both ?_ ?_ <;> intro _))) | (show wrapK _ _ _; (refine wrap_i64 (by omega) (by omega) ?_)) | (show leK _ _ _; (refine le_of (by first | exact Nat.le_refl _ | omega) ?_)) | (show roomK _ _ _; (refine room_of (by first | omega | (dsimp only; omega)) ?_)) | (show ltK _ _ _; (refine lt_of (by omega) ?_)) | (show _ ∧ _; (refine ⟨?_, ?_⟩)) | (show keepK _ _ _ _ _; (refine keep_of (by first | exact List.Sublist.refl _ | exact List.Sublist.cons _ (List.Sublist.refl _) | exact List.Sublist.cons _ (List.Sublist.cons _ (List.Sublist.refl _)) | exact List.Sublist.cons _ (List.Sublist.cons _ (List.Sublist.cons _ (List.Sublist.refl _)))) (by first | exact (fun _ _ h => h) | exact (fun _ _ h => h.1) | exact (fun _ _ h => h.1.1)) ?_)) | (show ownK _ _ _ _ _; (refine own_keep ?_))))
  refine call_check (f := 18) (check g) Try.call18 (fun ρ w' hw => refCheck_any w' g (holds_of_abs hw fun R h => hg.later h)) (fun hne => ?_) (fun he sv _ _ => ?_)
  · (repeat' ((conv => whnf) <;> first | (show @cmpK _ _ _; (refine cmp_yes hne ?_)) | (show drawK _ 14 _ _ _ _ _ _; (refine draw_tree tabOk mixed [] _ (.take 0 (.take 1 (.take 2 (.take 5 (.take 6 (.one 3 (.one 4 (.one 7 (.one 8 (.take 9 (.done))))))))))) (by kernel_rfl) (by kernel_rfl) (by kernel_rfl) (List.Sublist.refl _) ?_)) | (show drawK _ 16 _ _ _ _ _ _; (refine draw_tree tabOk mixed [] _ (.take 0 (.take 1 (.take 2 (.take 5 (.take 6 (.one 3 (.one 4 (.one 7 (.one 8 (.take 9 (.done))))))))))) (by kernel_rfl) (by kernel_rfl) (by kernel_rfl) (List.Sublist.refl _) ?_)) | (show Wp _ _ _ _ _ _ _; (refine Wp.go tabOk rfl ?_)) | (show @cmpK _ _ _; (first | refine cmp_yes (by omega) ?_ | refine cmp_no (by omega) ?_ | (refine cmp_both ?_ ?_ <;> intro _))) | (show wrapK _ _ _; (refine wrap_i64 (by omega) (by omega) ?_)) | (show leK _ _ _; (refine le_of (by first | exact Nat.le_refl _ | omega) ?_)) | (show roomK _ _ _; (refine room_of (by first | omega | (dsimp only; omega)) ?_)) | (show ltK _ _ _; (refine lt_of (by omega) ?_)) | (show _ ∧ _; (refine ⟨?_, ?_⟩)) | (show keepK _ _ _ _ _; (refine keep_of (by first | exact List.Sublist.refl _ | exact List.Sublist.cons _ (List.Sublist.refl _) | exact List.Sublist.cons _ (List.Sublist.cons _ (List.Sublist.refl _)) | exact List.Sublist.cons _ (List.Sublist.cons _ (List.Sublist.cons _ (List.Sublist.refl _)))) (by first | exact (fun _ _ h => h) | exact (fun _ _ h => h.1) | exact (fun _ _ h => h.1.1)) ?_)) | (show ownK _ _ _ _ _; (refine own_keep ?_))))
    conv => whnf
    exact wg_bad (fun _ _ h => h) rfl hne (fun _ => rfl)
  · (repeat' ((conv => whnf) <;> first | (show wrapK _ _ _; (refine wrap_byte ?_)) | (show drawK _ 14 _ _ _ _ _ _; (refine draw_tree tabOk mixed [] _ (.take 0 (.take 1 (.take 2 (.take 5 (.take 6 (.one 3 (.one 4 (.one 7 (.one 8 (.take 9 (.done))))))))))) (by kernel_rfl) (by kernel_rfl) (by kernel_rfl) (List.Sublist.refl _) ?_)) | (show drawK _ 16 _ _ _ _ _ _; (refine draw_tree tabOk mixed [] _ (.take 0 (.take 1 (.take 2 (.take 5 (.take 6 (.one 3 (.one 4 (.one 7 (.one 8 (.take 9 (.done))))))))))) (by kernel_rfl) (by kernel_rfl) (by kernel_rfl) (List.Sublist.refl _) ?_)) | (show Wp _ _ _ _ _ _ _; (refine Wp.go tabOk rfl ?_)) | (show @cmpK _ _ _; (first | refine cmp_yes (by omega) ?_ | refine cmp_no (by omega) ?_ | (refine cmp_both ?_ ?_ <;> intro _))) | (show wrapK _ _ _; (refine wrap_i64 (by omega) (by omega) ?_)) | (show leK _ _ _; (refine le_of (by first | exact Nat.le_refl _ | omega) ?_)) | (show roomK _ _ _; (refine room_of (by first | omega | (dsimp only; omega)) ?_)) | (show ltK _ _ _; (refine lt_of (by omega) ?_)) | (show _ ∧ _; (refine ⟨?_, ?_⟩)) | (show keepK _ _ _ _ _; (refine keep_of (by first | exact List.Sublist.refl _ | exact List.Sublist.cons _ (List.Sublist.refl _) | exact List.Sublist.cons _ (List.Sublist.cons _ (List.Sublist.refl _)) | exact List.Sublist.cons _ (List.Sublist.cons _ (List.Sublist.cons _ (List.Sublist.refl _)))) (by first | exact (fun _ _ h => h) | exact (fun _ _ h => h.1) | exact (fun _ _ h => h.1.1)) ?_)) | (show ownK _ _ _ _ _; (refine own_keep ?_))))
    refine Wp.loop (σ := Nat × Nat) 3 (fun ⟨j, m⟩ => [(6, .os 2 m), (1, .lp 0 0 0 0), (25, .c (.slice g.base g.l.length g.cap)), (26, .c (.int .i64 g.l.length)), (27, .c (.int .i64 j))]) (fun ⟨j, m⟩ => [(2, .rows (byts ([6] ++ beL g.l.length 1 ++ nodesBytes (g.l.take j))) 1 5), (0, .box [.c (.slice g.base g.l.length g.cap), .c (.int .i64 g.out)] 24)]) (fun _ => baseA w)
      (fun ⟨j, m⟩ => j ≤ g.l.length ∧ m = ([6] ++ beL g.l.length 1 ++ nodesBytes (g.l.take j)).length) (fun s => g.l.length - s.1) (0, 2) [(2, some 1)] (by decide) (fun s => ⟨rfl, rfl⟩) ⟨Nat.zero_le _, rfl⟩ ⟨rfl, ⟨rfl, rfl, rfl, rfl, rfl, trivial⟩, ⟨by rw [beL_one]; exact List.mem_cons_self, (by repeat (first | exact List.mem_cons_self | apply List.mem_cons_of_mem)), trivial⟩, fun _ _ h => h.1⟩ ?_
    rintro ⟨j, m⟩ ⟨hj, hm⟩
    by_cases hlt : j < g.l.length
    · obtain ⟨a, ha⟩ : ∃ a, g.base = some a := base_some (j := j) hg.rows (by rw [nodeRows_length]; omega)
      have hrow := nodeRows_get hlt
      have hnm := List.getElem_mem hlt
      have hsn := nodesBytes_snoc hlt
      have hnb := nodesBytes_len (l := g.l.take j) (fun m hm => hall m (List.mem_of_mem_take hm))
      rw [List.length_take, Nat.min_eq_left hj] at hnb
      have hmb : m ≤ 900000 := by
        rw [hm]
        simp only [List.length_append, beL_length, List.length_singleton]
        have : j * 20837 ≤ 40 * 20837 := Nat.mul_le_mul_right _ (by omega)
        omega
      have hfn := hall _ hnm
      generalize g.l[j] = n at *
      have hn := hg.each n hnm
      have h2 : n.data.xs.length ≤ 5000 ∧ n.bias.xs.length ≤ 200 ∧ n.shape.xs.length ≤ 20 := by simpa [fewN] using hfn
      dsimp only
      generalize hP : [6] ++ beL g.l.length 1 ++ nodesBytes (g.l.take j) = P at *
      (repeat' ((conv => whnf) <;> first | (show idxK _ _ _ _ _; (refine idx_of a j ha rfl hlt ?_)) | (show roAggK _ _ _ _; (refine roAgg_row (fun R w' h => by rw [← ha]; exact rows_base h hg.rows) _ hrow rfl ?_)) | (show wrapK _ _ _; (refine wrap_byte ?_)) | (show leK _ _ _; (refine le_of (by rw [byts_length, hm]; exact Nat.le_refl _) ?_)) | (show roomK _ _ _; (refine room_of (by show (m + 4) * 1 ≤ 140737488355328; omega) ?_)) | (show drawK _ 14 _ _ _ _ _ _; (refine draw_tree tabOk mixed [] _ (.take 0 (.take 1 (.take 2 (.take 5 (.take 6 (.one 3 (.one 4 (.one 7 (.one 8 (.take 9 (.done))))))))))) (by kernel_rfl) (by kernel_rfl) (by kernel_rfl) (List.Sublist.refl _) ?_)) | (show drawK _ 16 _ _ _ _ _ _; (refine draw_tree tabOk mixed [] _ (.take 0 (.take 1 (.take 2 (.take 5 (.take 6 (.one 3 (.one 4 (.one 7 (.one 8 (.take 9 (.done))))))))))) (by kernel_rfl) (by kernel_rfl) (by kernel_rfl) (List.Sublist.refl _) ?_)) | (show Wp _ _ _ _ _ _ _; (refine Wp.go tabOk rfl ?_)) | (show @cmpK _ _ _; (first | refine cmp_yes (by omega) ?_ | refine cmp_no (by omega) ?_ | (refine cmp_both ?_ ?_ <;> intro _))) | (show wrapK _ _ _; (refine wrap_i64 (by omega) (by omega) ?_)) | (show leK _ _ _; (refine le_of (by first | exact Nat.le_refl _ | omega) ?_)) | (show roomK _ _ _; (refine room_of (by first | omega | (dsimp only; omega)) ?_)) | (show ltK _ _ _; (refine lt_of (by omega) ?_)) | (show _ ∧ _; (refine ⟨?_, ?_⟩)) | (show keepK _ _ _ _ _; (refine keep_of (by first | exact List.Sublist.refl _ | exact List.Sublist.cons _ (List.Sublist.refl _) | exact List.Sublist.cons _ (List.Sublist.cons _ (List.Sublist.refl _)) | exact List.Sublist.cons _ (List.Sublist.cons _ (List.Sublist.cons _ (List.Sublist.refl _)))) (by first | exact (fun _ _ h => h) | exact (fun _ _ h => h.1) | exact (fun _ _ h => h.1.1)) ?_)) | (show ownK _ _ _ _ _; (refine own_keep ?_))))
      have e4 : P ++ beL n.kind 1 ++ beL n.a 1 ++ beL n.b 1 ++ beL n.shape.xs.length 1 = P ++ [n.kind % 256, n.a % 256, n.b % 256, n.shape.xs.length % 256] := by rw [← beL_four]; simp only [List.append_assoc]
      refine Wp.loop (σ := Nat × Nat) 7 (fun ⟨i, q⟩ => [(6, .os 6 q), (8, .lp 3 0 0 0), (1, .lp 0 0 0 0), (25, .c (.slice g.base g.l.length g.cap)), (26, .c (.int .i64 g.l.length)), (27, .c (.int .i64 j)), (48, .c n.shape.val), (49, .c (.int .i64 n.shape.xs.length)), (50, .c (.int .i64 i))]) (fun ⟨i, q⟩ => [(6, .rows (byts (P ++ beL n.kind 1 ++ beL n.a 1 ++ beL n.b 1 ++ beL n.shape.xs.length 1 ++ (n.shape.xs.take i).flatMap fun v => beL v 1)) 1 5), (3, .box [.c (.int .i64 n.kind), .c (.int .i64 n.a), .c (.int .i64 n.b), .c n.shape.val, .c (.int .i64 n.lo), .c (.int .i64 n.hi), .c (.int .i64 n.size), .c n.data.val, .c n.bias.val] 43), (0, .box [.c (.slice g.base g.l.length g.cap), .c (.int .i64 g.out)] 24)]) (fun _ => baseA w)
        (fun ⟨i, q⟩ => i ≤ n.shape.xs.length ∧ q = m + 4 + i) (fun s => n.shape.xs.length - s.1) (0, m + 4) [(6, some 5)] (by decide) (fun s => ⟨rfl, rfl⟩) ⟨Nat.zero_le _, rfl⟩ ⟨rfl, ⟨rfl, rfl, rfl, rfl, rfl, rfl, rfl, rfl, rfl, trivial⟩, ⟨by
          show (5, Ent.rows (byts (P ++ beL n.kind 1 ++ beL n.a 1 ++ beL n.b 1 ++ beL n.shape.xs.length 1 ++ (n.shape.xs.take 0).flatMap fun v => beL v 1)) 1 5) ∈ _
          rw [List.take_zero, List.flatMap_nil, List.append_nil, e4]; exact byts_cat hm, (by repeat (first | exact List.mem_cons_self | apply List.mem_cons_of_mem)), (by repeat (first | exact List.mem_cons_self | apply List.mem_cons_of_mem)), trivial⟩, fun _ _ h => h⟩ ?_
      rintro ⟨i, q⟩ ⟨hi, hq⟩
      have hfi := flat_take_len n.shape.xs i 1 hi
      have hQl : (P ++ beL n.kind 1 ++ beL n.a 1 ++ beL n.b 1 ++ beL n.shape.xs.length 1 ++ (n.shape.xs.take i).flatMap fun v => beL v 1).length = q := by
        simp only [List.length_append, beL_length, hfi]; omega
      by_cases hlt2 : i < n.shape.xs.length
      · obtain ⟨c, hc⟩ : ∃ a, n.shape.base = some a := base_some (j := i) hn.shape.rows (by rw [ints_length]; exact hlt2)
        have hget := ints_get hlt2
        have hsn2 := flat_snoc (k := 1) hlt2
        generalize n.shape.xs[i] = v at *
        dsimp only
        generalize hQ : P ++ beL n.kind 1 ++ beL n.a 1 ++ beL n.b 1 ++ beL n.shape.xs.length 1 ++ (n.shape.xs.take i).flatMap (fun v => beL v 1) = Q at *
        (repeat' ((conv => whnf) <;> first | (show idxK _ _ _ _ _; (refine idx_of c i hc rfl hlt2 ?_)) | (show roK _ _ _; (refine ro_row0 (fun R w' h => by rw [← hc]; exact rows_base h hn.shape.rows) _ _ hget rfl ?_)) | (show wrapK _ _ _; (first | refine wrap_byte ?_)) | (show leK _ _ _; (refine le_of (by rw [byts_length, hQl]; exact Nat.le_refl _) ?_)) | (show roomK _ _ _; (refine room_of (by show (q + 1) * 1 ≤ 140737488355328; omega) ?_)) | (show drawK _ 14 _ _ _ _ _ _; (refine draw_tree tabOk mixed [] _ (.take 0 (.take 1 (.take 2 (.take 5 (.take 6 (.one 3 (.one 4 (.one 7 (.one 8 (.take 9 (.done))))))))))) (by kernel_rfl) (by kernel_rfl) (by kernel_rfl) (List.Sublist.refl _) ?_)) | (show drawK _ 16 _ _ _ _ _ _; (refine draw_tree tabOk mixed [] _ (.take 0 (.take 1 (.take 2 (.take 5 (.take 6 (.one 3 (.one 4 (.one 7 (.one 8 (.take 9 (.done))))))))))) (by kernel_rfl) (by kernel_rfl) (by kernel_rfl) (List.Sublist.refl _) ?_)) | (show Wp _ _ _ _ _ _ _; (refine Wp.go tabOk rfl ?_)) | (show @cmpK _ _ _; (first | refine cmp_yes (by omega) ?_ | refine cmp_no (by omega) ?_ | (refine cmp_both ?_ ?_ <;> intro _))) | (show wrapK _ _ _; (refine wrap_i64 (by omega) (by omega) ?_)) | (show leK _ _ _; (refine le_of (by first | exact Nat.le_refl _ | omega) ?_)) | (show roomK _ _ _; (refine room_of (by first | omega | (dsimp only; omega)) ?_)) | (show ltK _ _ _; (refine lt_of (by omega) ?_)) | (show _ ∧ _; (refine ⟨?_, ?_⟩)) | (show keepK _ _ _ _ _; (refine keep_of (by first | exact List.Sublist.refl _ | exact List.Sublist.cons _ (List.Sublist.refl _) | exact List.Sublist.cons _ (List.Sublist.cons _ (List.Sublist.refl _)) | exact List.Sublist.cons _ (List.Sublist.cons _ (List.Sublist.cons _ (List.Sublist.refl _)))) (by first | exact (fun _ _ h => h) | exact (fun _ _ h => h.1) | exact (fun _ _ h => h.1.1)) ?_)) | (show ownK _ _ _ _ _; (refine own_keep ?_))))
        conv => whnf
        exact ⟨(i + 1, q + 1), [(6, some 8)], ⟨hlt2, by omega⟩, by simp only; omega, rfl, ⟨rfl, rfl, rfl, rfl, rfl, rfl, rfl, rfl, rfl, trivial⟩, ⟨by
          show (8, Ent.rows (byts (P ++ beL n.kind 1 ++ beL n.a 1 ++ beL n.b 1 ++ beL n.shape.xs.length 1 ++ (n.shape.xs.take (i + 1)).flatMap fun v => beL v 1)) 1 5) ∈ _
          rw [hsn2, ← List.append_assoc, hQ, beL_one]; exact byts_cat hQl.symm, (by repeat (first | exact List.mem_cons_self | apply List.mem_cons_of_mem)), (by repeat (first | exact List.mem_cons_self | apply List.mem_cons_of_mem)), trivial⟩, fun _ _ h => h⟩
      · obtain rfl : i = n.shape.xs.length := by omega
        have htk : n.shape.xs.take n.shape.xs.length = n.shape.xs := List.take_of_length_le (Nat.le_refl _)
        rw [htk] at hQl
        dsimp only
        rw [htk]
        generalize hQ : P ++ beL n.kind 1 ++ beL n.a 1 ++ beL n.b 1 ++ beL n.shape.xs.length 1 ++ n.shape.xs.flatMap (fun v => beL v 1) = Q at *
        have hQb : Q.length ≤ 910000 := by omega
        obtain rfl : q = Q.length := hQl.symm
        (repeat' ((conv => whnf) <;> first | (show keepK _ _ _ _ _; (refine keep_of (by repeat (first | exact List.Sublist.refl _ | exact List.nil_sublist _ | apply List.Sublist.cons_cons | apply List.Sublist.cons)) (by first | exact (fun _ _ h => h) | exact (fun _ _ h => h.1)) ?_)) | (show drawK _ 14 _ _ _ _ _ _; (refine draw_tree tabOk mixed [] [(3, .box [.c (.int .i64 n.kind), .c (.int .i64 n.a), .c (.int .i64 n.b), .c n.shape.val, .c (.int .i64 n.lo), .c (.int .i64 n.hi), .c (.int .i64 n.size), .c n.data.val, .c n.bias.val] 43)] (.take 0 (.take 1 (.take 2 (.take 5 (.take 6 (.one 3 (.one 4 (.one 7 (.one 8 (.take 9 (.done))))))))))) (by kernel_rfl) (by kernel_rfl) (by kernel_rfl) (by repeat (first | exact List.Sublist.refl _ | exact List.nil_sublist _ | apply List.Sublist.cons_cons | apply List.Sublist.cons)) ?_)) | (show drawK _ 16 _ _ _ _ _ _; (refine draw_tree tabOk mixed [] [(3, .box [.c (.int .i64 n.kind), .c (.int .i64 n.a), .c (.int .i64 n.b), .c n.shape.val, .c (.int .i64 n.lo), .c (.int .i64 n.hi), .c (.int .i64 n.size), .c n.data.val, .c n.bias.val] 43)] (.take 0 (.take 1 (.take 2 (.take 5 (.take 6 (.one 3 (.one 4 (.one 7 (.one 8 (.take 9 (.done))))))))))) (by kernel_rfl) (by kernel_rfl) (by kernel_rfl) (by repeat (first | exact List.Sublist.refl _ | exact List.nil_sublist _ | apply List.Sublist.cons_cons | apply List.Sublist.cons)) ?_)) | (show wrapK _ _ _; (first | refine wrap_byte ?_)) | (show leK _ _ _; (refine le_of (by rw [byts_length]; exact Nat.le_refl _) ?_)) | (show ownK _ _ _ _ _; (first | refine own_cat (Q := Q) rfl (take_all rfl) ?_ | refine own_cat rfl (take_all rfl) ?_ | refine own_cat (Z := [_]) rfl rfl ?_ | refine own_keep ?_)) | (show roomK _ _ _; (refine room_of (by show (_ * 1 ≤ 140737488355328); first | (simp only [List.length_append, List.length_take, List.length_cons, List.length_nil, byts_length, beL_length, rowBytes_len]; omega) | (show ((_ + 1) * 1 ≤ 140737488355328); simp only [List.length_append, List.length_take, List.length_cons, List.length_nil, byts_length, beL_length, rowBytes_len]; omega)) ?_)) | (show callK _ 73 [.c (.int .i64 n.lo)] _ _ _ _; (refine call_byts (f := 73) (beL n.lo 4) Try.call73 (fun ρ w' hw => rsig_any w' n.lo) ?_)) | (show callK _ 73 [.c (.int .i64 n.hi)] _ _ _ _; (refine call_byts (f := 73) (beL n.hi 4) Try.call73 (fun ρ w' hw => rsig_any w' n.hi) ?_)) | (show callK _ 74 [.c n.data.val, .c (.int .i64 4)] _ _ _ _; (refine call_byts (f := 74) (rowBytes n.data.xs) Try.call74 (fun ρ w' hw => rrowb_any w' n.data (holds_of_abs hw fun R h => hn.data.later h) (by omega)) ?_)) | (show callK _ 74 [.c n.bias.val, .c (.int .i64 4)] _ _ _ _; (refine call_byts (f := 74) (rowBytes n.bias.xs) Try.call74 (fun ρ w' hw => rrowb_any w' n.bias (holds_of_abs hw fun R h => hn.bias.later h) (by omega)) ?_)) | (show Wp _ _ _ _ _ _ _; (refine Wp.go tabOk rfl ?_)) | (show @cmpK _ _ _; (first | refine cmp_yes (by omega) ?_ | refine cmp_no (by omega) ?_ | (refine cmp_both ?_ ?_ <;> intro _))) | (show wrapK _ _ _; (refine wrap_i64 (by omega) (by omega) ?_)) | (show leK _ _ _; (refine le_of (by first | exact Nat.le_refl _ | omega) ?_)) | (show roomK _ _ _; (refine room_of (by first | omega | (dsimp only; omega)) ?_)) | (show ltK _ _ _; (refine lt_of (by omega) ?_)) | (show _ ∧ _; (refine ⟨?_, ?_⟩)) | (show keepK _ _ _ _ _; (refine keep_of (by first | exact List.Sublist.refl _ | exact List.Sublist.cons _ (List.Sublist.refl _) | exact List.Sublist.cons _ (List.Sublist.cons _ (List.Sublist.refl _)) | exact List.Sublist.cons _ (List.Sublist.cons _ (List.Sublist.cons _ (List.Sublist.refl _)))) (by first | exact (fun _ _ h => h) | exact (fun _ _ h => h.1) | exact (fun _ _ h => h.1.1)) ?_)) | (show ownK _ _ _ _ _; (refine own_keep ?_))))
        all_goals (conv => whnf)
        have hB : [6] ++ beL g.l.length 1 ++ nodesBytes (g.l.take (j + 1)) = Q ++ beL n.lo 4 ++ beL n.hi 4 ++ [n.size % 256] ++ rowBytes n.data.xs ++ rowBytes n.bias.xs := by
          rw [hsn, ← List.append_assoc, hP, ← hQ, ← beL_one]
          unfold nodeBytes
          simp only [List.append_assoc]
          rfl
        exact ⟨(j + 1, _), [(2, some 16)], ⟨hlt, by rw [hB]⟩, by simp only; omega, rfl, ⟨rfl, rfl, rfl, rfl, rfl, trivial⟩, ⟨by
          show (16, Ent.rows (byts ([6] ++ beL g.l.length 1 ++ nodesBytes (g.l.take (j + 1)))) 1 5) ∈ _
          rw [hB]; exact (by repeat (first | exact List.mem_cons_self | apply List.mem_cons_of_mem)), (by repeat (first | exact List.mem_cons_self | apply List.mem_cons_of_mem)), trivial⟩, fun _ _ h => h⟩
    · obtain rfl : j = g.l.length := by omega
      have htk : g.l.take g.l.length = g.l := List.take_of_length_le (Nat.le_refl _)
      rw [htk] at hm
      dsimp only
      rw [htk]
      have hnb := nodesBytes_len (l := g.l) hall
      have hmb : m ≤ 900000 := by
        rw [hm]
        simp only [List.length_append, beL_length, List.length_singleton]
        have : g.l.length * 20837 ≤ 40 * 20837 := Nat.mul_le_mul_right _ (by omega)
        omega
      have hgb := graphBytes_eq g
      generalize [6] ++ beL g.l.length 1 ++ nodesBytes g.l = Q at *
      obtain rfl : m = Q.length := hm
      (repeat' ((conv => whnf) <;> first | (show wrapK _ _ _; (refine wrap_byte ?_)) | (show leK _ _ _; (refine le_of (by rw [byts_length]; exact Nat.le_refl _) ?_)) | (show ownK _ _ _ _ _; (first | refine own_cat (Q := Q) rfl (take_all rfl) ?_ | refine own_cat rfl (take_all rfl) ?_ | refine own_cat (Z := [_]) rfl rfl ?_ | refine own_keep ?_)) | (show roomK _ _ _; (refine room_of (by show (_ * 1 ≤ 140737488355328); first | (simp only [List.length_append, List.length_take, List.length_cons, List.length_nil, byts_length, beL_length, rowBytes_len]; omega) | (show ((_ + 1) * 1 ≤ 140737488355328); simp only [List.length_append, List.length_take, List.length_cons, List.length_nil, byts_length, beL_length, rowBytes_len]; omega)) ?_)) | (show drawK _ 14 _ _ _ _ _ _; (refine draw_tree tabOk mixed [] _ (.take 0 (.take 1 (.take 2 (.take 5 (.take 6 (.one 3 (.one 4 (.one 7 (.one 8 (.take 9 (.done))))))))))) (by kernel_rfl) (by kernel_rfl) (by kernel_rfl) (List.Sublist.refl _) ?_)) | (show drawK _ 16 _ _ _ _ _ _; (refine draw_tree tabOk mixed [] _ (.take 0 (.take 1 (.take 2 (.take 5 (.take 6 (.one 3 (.one 4 (.one 7 (.one 8 (.take 9 (.done))))))))))) (by kernel_rfl) (by kernel_rfl) (by kernel_rfl) (List.Sublist.refl _) ?_)) | (show Wp _ _ _ _ _ _ _; (refine Wp.go tabOk rfl ?_)) | (show @cmpK _ _ _; (first | refine cmp_yes (by omega) ?_ | refine cmp_no (by omega) ?_ | (refine cmp_both ?_ ?_ <;> intro _))) | (show wrapK _ _ _; (refine wrap_i64 (by omega) (by omega) ?_)) | (show leK _ _ _; (refine le_of (by first | exact Nat.le_refl _ | omega) ?_)) | (show roomK _ _ _; (refine room_of (by first | omega | (dsimp only; omega)) ?_)) | (show ltK _ _ _; (refine lt_of (by omega) ?_)) | (show _ ∧ _; (refine ⟨?_, ?_⟩)) | (show keepK _ _ _ _ _; (refine keep_of (by first | exact List.Sublist.refl _ | exact List.Sublist.cons _ (List.Sublist.refl _) | exact List.Sublist.cons _ (List.Sublist.cons _ (List.Sublist.refl _)) | exact List.Sublist.cons _ (List.Sublist.cons _ (List.Sublist.cons _ (List.Sublist.refl _)))) (by first | exact (fun _ _ h => h) | exact (fun _ _ h => h.1) | exact (fun _ _ h => h.1.1)) ?_)) | (show ownK _ _ _ _ _; (refine own_keep ?_))))
      conv => whnf
      exact wg_good (fun _ _ h => h) rfl he (by repeat (first | exact List.mem_cons_self | apply List.mem_cons_of_mem)) rfl (by rw [hgb, beL_one])
end Go.Proofs.Ytajbngkcgbehlaa
/- SW -/
namespace Go.Proofs.Ytajbngkcgbehlaa
open Go.SX Go.RowKit
/-! plain: what is written is read as it was -/
structure Fit8 (n : NodeP) : Prop where
  kind : 0 ≤ n.kind ∧ n.kind ≤ 255
  a : 0 ≤ n.a ∧ n.a ≤ 255
  b : 0 ≤ n.b ∧ n.b ≤ 255
  shapeLen : n.shape.length ≤ 255
  shape : ∀ d ∈ n.shape, 0 ≤ d ∧ d ≤ 255
  lo : -2147483648 ≤ n.lo ∧ n.lo ≤ 2147483647
  hi : -2147483648 ≤ n.hi ∧ n.hi ≤ 2147483647
  size : 0 ≤ n.size ∧ n.size ≤ 255
  dataLen : n.data.length ≤ 65535
  data : ∀ v ∈ n.data, -2147483648 ≤ v ∧ v ≤ 2147483647
  biasLen : n.bias.length ≤ 65535
  bias : ∀ v ∈ n.bias, -2147483648 ≤ v ∧ v ≤ 2147483647
theorem near_fit {l : List Int} (h : nearL l = true) : ∀ v ∈ l, -2147483648 ≤ v ∧ v ≤ 2147483647 := fun v hv => by
  have := List.all_eq_true.1 h v hv
  simp only [decide_eq_true_eq] at this
  omega
theorem nil_dims {l : List Int} (h : l.length = 0) : ∀ d ∈ l, 0 ≤ d ∧ d ≤ 255 := by
  rw [List.length_eq_zero_iff.1 h]; intro d hd; simp at hd
theorem ent_dims {l : List Int} (h : 0 < entries l) : l.length ≤ 255 ∧ ∀ d ∈ l, 0 ≤ d ∧ d ≤ 255 := by
  obtain ⟨_, h1, h2⟩ := entries_dims h
  exact ⟨by omega, fun d hd => by have := h2 d hd; omega⟩
theorem ker_dims {l : List Int} (h : 0 < kernelI l) : l.length ≤ 255 ∧ ∀ d ∈ l, 0 ≤ d ∧ d ≤ 255 := by
  obtain ⟨h1, h2⟩ := kernel_dims h
  exact ⟨by omega, fun d hd => by have := h2 d hd; omega⟩
theorem fit8_of {n : NodeV} {sh : List (List Int)} {s : List Int} (hf : formB n sh.length = true) (hs : shapeO n sh = some s) (hn : nearB n = true) (hl : sh.length ≤ 24) (hg : ∀ s ∈ sh, 0 < entries s) (hfew : fewN n = true) : Fit8 n.pl := by
  have h2 : n.data.xs.length ≤ 5000 ∧ n.bias.xs.length ≤ 200 ∧ n.shape.xs.length ≤ 20 := by simpa [fewN] using hfew
  have hfo := formed_of hf
  have hkk := hfo.kind
  unfold nearB at hn
  simp only [Bool.and_eq_true, decide_eq_true_eq] at hn
  obtain ⟨⟨⟨n1, n2⟩, n3⟩, n4⟩ := hn
  have hlo := near_fit n3 n.lo (by simp)
  have hhi := near_fit n3 n.hi (by simp)
  have key : (0 ≤ n.a ∧ n.a ≤ 255) ∧ (0 ≤ n.b ∧ n.b ≤ 255) ∧ (n.shape.xs.length ≤ 255 ∧ ∀ d ∈ n.shape.xs, 0 ≤ d ∧ d ≤ 255) ∧ (0 ≤ n.size ∧ n.size ≤ 255) := by
    unfold formB at hf
    have hk : n.kind = 1 ∨ n.kind = 2 ∨ n.kind = 3 ∨ n.kind = 4 ∨ n.kind = 5 ∨ n.kind = 6 ∨ n.kind = 7 ∨ n.kind = 8 ∨ n.kind = 9 := by omega
    rcases hk with hk | hk | hk | hk | hk | hk | hk | hk | hk
    all_goals repeat (first | rw [if_pos (by omega)] at hf | rw [if_neg (by omega)] at hf)
    all_goals simp only [lacksB, aheadB, Bool.true_or, Bool.false_or, Bool.true_and, Bool.and_true, Bool.and_eq_true, decide_eq_true_eq] at hf
    · exact ⟨by omega, by omega, ent_dims (hfo.own (by omega)), by omega⟩
    · exact ⟨by omega, by omega, ent_dims (hfo.own (by omega)), by omega⟩
    · exact ⟨by omega, by omega, ⟨by omega, nil_dims (by omega)⟩, by omega⟩
    · exact ⟨by omega, by omega, ker_dims (hfo.kern hk), by omega⟩
    · refine ⟨by omega, by omega, ⟨by omega, nil_dims (by omega)⟩, ?_⟩
      have hp := hfo.pool hk
      have ha := hfo.a (by omega) (by omega)
      have hgd := getD_good hg ha.1 ha.2
      unfold shapeO at hs
      rw [if_neg (by omega), if_neg (by omega), if_neg (by omega), if_pos hk] at hs
      generalize sh.getD n.a.toNat [] = q at *
      by_cases hc : q.length ≠ 3 ∨ q.getD 1 0 % n.size ≠ 0 ∨ q.getD 2 0 % n.size ≠ 0
      · rw [if_pos hc] at hs; cases hs
      · have h3 : q.length = 3 := by omega
        have hm : q.getD 1 0 % n.size = 0 := by omega
        have hd := (entries_dims hgd).2.2 _ (getD_mem (k := 1) (by omega))
        rcases (by omega : q.getD 1 0 < n.size ∨ n.size ≤ q.getD 1 0) with hlt | hge
        · rw [Int.emod_eq_of_lt (by omega) hlt] at hm; omega
        · omega
    · exact ⟨by omega, by omega, ⟨by omega, nil_dims (by omega)⟩, by omega⟩
    · exact ⟨by omega, by omega, ⟨by omega, nil_dims (by omega)⟩, by omega⟩
    · exact ⟨by omega, by omega, ⟨by omega, nil_dims (by omega)⟩, by omega⟩
    · exact ⟨by omega, by omega, ent_dims (hfo.own (by omega)), by omega⟩
  exact ⟨by show 0 ≤ n.kind ∧ n.kind ≤ 255; omega, key.1, key.2.1, key.2.2.1.1, key.2.2.1.2, hlo, hhi, key.2.2.2, by show n.data.xs.length ≤ 65535; omega, near_fit n1, by show n.bias.xs.length ≤ 65535; omega, near_fit n2⟩
theorem fits_checkR : ∀ {l : List NodeV} {sh : List (List Int)}, (checkR l sh).1 = 0 → (∀ s ∈ sh, 0 < entries s) → sh.length + l.length ≤ 24 → (∀ n ∈ l, fewN n = true) → ∀ n ∈ l, Fit8 n.pl
  | [], _, _, _, _, _ => fun n hn => by simp at hn
  | m :: r, sh, h, hg, hl, hfew => by
    by_cases hf : formB m sh.length = false
    · rw [checkR_form hf] at h; simp at h
    have hf : formB m sh.length = true := by simpa using hf
    cases hs : shapeO m sh with
    | none => rw [checkR_shape hf hs] at h; simp at h
    | some s =>
      by_cases hn : nearB m = false
      · rw [checkR_near hf hs hn] at h; simp at h
      have hn : nearB m = true := by simpa using hn
      rw [checkR_next hf hs hn] at h
      simp only [List.length_cons] at hl
      intro n hnm
      rcases List.mem_cons.1 hnm with rfl | hnm
      · exact fit8_of hf hs hn (by omega) hg (hfew _ List.mem_cons_self)
      · refine fits_checkR h (fun x hx => ?_) (by simp; omega) (fun y hy => hfew y (List.mem_cons_of_mem _ hy)) n hnm
        rcases List.mem_append.1 hx with hx | hx
        · exact hg x hx
        · simp at hx; subst hx; exact shape_good (formed_of hf) hg hs rfl
/-! reading back -/
theorem rdNum_back {n : Nat} {l r : List Int} (h : l.length = n) : rdNum n (l ++ r, 0) = (valB l, r, 0) := by
  unfold rdNum
  rw [if_neg (by simp), if_neg (by simp; omega)]
  simp only [List.take_left' h, List.drop_left' h]
theorem back1 {v : Int} (h : 0 ≤ v ∧ v ≤ 255) (r : List Int) : rdNum 1 (beL v 1 ++ r, 0) = (v, r, 0) := by
  rw [rdNum_back (beL_length v 1)]
  simp [beL, valB]; omega
theorem back2 {v : Int} (h : 0 ≤ v ∧ v ≤ 65535) (r : List Int) : rdNum 2 (beL v 2 ++ r, 0) = (v, r, 0) := by
  rw [rdNum_back (beL_length v 2)]
  have e : (0 * 256 + v / 256 % 256) * 256 + v / 1 % 256 = v := by omega
  simp [beL, valB]; omega
theorem back4 {v : Int} (h : -2147483648 ≤ v ∧ v ≤ 2147483647) (r : List Int) : rdSigned (beL v 4 ++ r, 0) = (v, r, 0) := by
  unfold rdSigned
  rw [rdNum_back (beL_length v 4)]
  have e : valB (beL v 4) = v % 4294967296 := by
    simp [beL, valB]; omega
  rw [e]
  simp only [sg]
  split <;> simp <;> omega
theorem back_many {α : Type} {f : RdS → α × RdS} {enc : α → List Int} : ∀ {l : List α}, (∀ x ∈ l, ∀ r, f (enc x ++ r, 0) = (x, r, 0)) → ∀ r, readMany f l.length (l.flatMap enc ++ r, 0) = (l, r, 0)
  | [], _, r => rfl
  | x :: l, h, r => by
    rw [List.length_cons, readMany_go f rfl, List.flatMap_cons, List.append_assoc, h x List.mem_cons_self]
    simp only
    rw [back_many (fun y hy => h y (List.mem_cons_of_mem _ hy)) r]
theorem back_row {l : List Int} (hl : l.length ≤ 65535) (h : ∀ v ∈ l, -2147483648 ≤ v ∧ v ≤ 2147483647) (r : List Int) : readRow (rowBytes l ++ r, 0) = (l, r, 0) := by
  unfold readRow rowBytes
  rw [List.append_assoc, back2 ⟨by omega, by omega⟩]
  simp only [Int.toNat_natCast]
  exact back_many (fun x hx r => back4 (h x hx) r) r
theorem back_shape {l : List Int} (hl : l.length ≤ 255) (h : ∀ v ∈ l, 0 ≤ v ∧ v ≤ 255) (r : List Int) : readShape (beL l.length 1 ++ ((l.flatMap fun v => beL v 1) ++ r), 0) = (l, r, 0) := by
  unfold readShape
  rw [back1 ⟨by omega, by omega⟩]
  simp only [Int.toNat_natCast]
  exact back_many (fun x hx r => back1 (h x hx) r) r
theorem back_node {n : NodeP} (h : Fit8 n) (r : List Int) : readNode (nodeBytes n ++ r, 0) = (n, r, 0) := by
  obtain ⟨s, hs⟩ : ∃ s : RdS, s = (nodeBytes n ++ r, 0) := ⟨_, rfl⟩
  rw [← hs]
  unfold nodeBytes at hs
  simp only [List.append_assoc] at hs
  have hA := back1 h.kind (beL n.a 1 ++ (beL n.b 1 ++ (beL n.shape.length 1 ++ ((n.shape.flatMap fun v => beL v 1) ++ (beL n.lo 4 ++ (beL n.hi 4 ++ (beL n.size 1 ++ (rowBytes n.data ++ (rowBytes n.bias ++ r)))))))))
  rw [← hs] at hA
  have hB : ndB s = (n.a, (beL n.b 1 ++ (beL n.shape.length 1 ++ ((n.shape.flatMap fun v => beL v 1) ++ (beL n.lo 4 ++ (beL n.hi 4 ++ (beL n.size 1 ++ (rowBytes n.data ++ (rowBytes n.bias ++ r)))))))), 0) := by show rdNum 1 (rdNum 1 s).2 = _; rw [hA]; exact back1 h.a _
  have hC : ndC s = (n.b, (beL n.shape.length 1 ++ ((n.shape.flatMap fun v => beL v 1) ++ (beL n.lo 4 ++ (beL n.hi 4 ++ (beL n.size 1 ++ (rowBytes n.data ++ (rowBytes n.bias ++ r))))))), 0) := by show rdNum 1 (ndB s).2 = _; rw [hB]; exact back1 h.b _
  have hS : ndS s = (n.shape, (beL n.lo 4 ++ (beL n.hi 4 ++ (beL n.size 1 ++ (rowBytes n.data ++ (rowBytes n.bias ++ r))))), 0) := by show readShape (ndC s).2 = _; rw [hC]; exact back_shape h.shapeLen h.shape _
  have hL : ndL s = (n.lo, (beL n.hi 4 ++ (beL n.size 1 ++ (rowBytes n.data ++ (rowBytes n.bias ++ r)))), 0) := by show rdSigned (ndS s).2 = _; rw [hS]; exact back4 h.lo _
  have hH : ndH s = (n.hi, (beL n.size 1 ++ (rowBytes n.data ++ (rowBytes n.bias ++ r))), 0) := by show rdSigned (ndL s).2 = _; rw [hL]; exact back4 h.hi _
  have hZ : ndZ s = (n.size, (rowBytes n.data ++ (rowBytes n.bias ++ r)), 0) := by show rdNum 1 (ndH s).2 = _; rw [hH]; exact back1 h.size _
  have hD : ndD s = (n.data, (rowBytes n.bias ++ r), 0) := by show readRow (ndZ s).2 = _; rw [hZ]; exact back_row h.dataLen h.data _
  have hE : ndE s = (n.bias, r, 0) := by show readRow (ndD s).2 = _; rw [hD]; exact back_row h.biasLen h.bias _
  unfold readNode
  rw [hE, hD, hZ, hH, hL, hS, hC, hB]
  show ((⟨(rdNum 1 s).1, _, _, _, _, _, _, _, _⟩ : NodeP), _) = _
  rw [hA]
theorem back_graph {g : GraphV} (hc : (check g).1 = 0) (hfew : fewB g = true) : rgN (graphBytes (g.l.map NodeV.pl) g.out) = (g.l.map NodeV.pl, beL g.out 1, 0) ∧ readGraph (graphBytes (g.l.map NodeV.pl) g.out) = (g.l.map NodeV.pl, g.out, 0) := by
  have hall : ∀ n ∈ g.l, fewN n = true := by unfold fewB at hfew; simp only [Bool.and_eq_true, List.all_eq_true] at hfew; exact hfew.2
  have hc' := hc
  unfold check at hc'
  split at hc'
  · simp at hc'
  rename_i hcond
  have hl : g.l.length ≤ 24 ∧ 0 ≤ g.out ∧ g.out < g.l.length := by omega
  have hfits := fits_checkR hc' (fun s hs => by simp at hs) (by simp; omega) hall
  have hst : rdStart 6 (graphBytes (g.l.map NodeV.pl) g.out, 0) = (beL (g.l.map NodeV.pl).length 1 ++ ((g.l.map NodeV.pl).flatMap nodeBytes ++ beL g.out 1), 0) := by
    unfold rdStart graphBytes
    have : rdNum 1 ([6] ++ beL (g.l.map NodeV.pl).length 1 ++ (g.l.map NodeV.pl).flatMap nodeBytes ++ beL g.out 1, 0) = (6, beL (g.l.map NodeV.pl).length 1 ++ ((g.l.map NodeV.pl).flatMap nodeBytes ++ beL g.out 1), 0) := by
      have := rdNum_back (n := 1) (l := [6]) (r := beL (g.l.map NodeV.pl).length 1 ++ ((g.l.map NodeV.pl).flatMap nodeBytes ++ beL g.out 1)) rfl
      rw [List.append_assoc, List.append_assoc]
      exact this
    rw [this]
    exact rdFail_false 3 _ 0
  have hN : rgN (graphBytes (g.l.map NodeV.pl) g.out) = (g.l.map NodeV.pl, beL g.out 1, 0) := by
    show readNodes (rdStart 6 _) = _
    rw [hst]
    unfold readNodes
    rw [back1 ⟨by omega, by rw [List.length_map]; omega⟩]
    simp only [Int.toNat_natCast]
    exact back_many (f := readNode) (fun x hx r => by
      obtain ⟨n, hn, rfl⟩ := List.mem_map.1 hx
      exact back_node (hfits n hn) r) _
  refine ⟨hN, ?_⟩
  have hO : rgO (graphBytes (g.l.map NodeV.pl) g.out) = (g.out, [], 0) := by
    show rdNum 1 (rgN _).2 = _
    rw [hN]
    have := back1 (v := g.out) ⟨by omega, by omega⟩ []
    rwa [List.append_nil] at this
  have hZ : (rgZ (graphBytes (g.l.map NodeV.pl) g.out)).1 = 0 := by
    show (rdEnd (rgO _).2).1 = 0
    rw [hO]; rfl
  unfold readGraph
  rw [if_neg (by rw [hZ]; simp), hO, hN]
  have hck : check (graphP (g.l.map NodeV.pl) g.out) = check g := check_pl (by show ((g.l.map NodeV.pl).map NodeP.toV).map NodeV.pl = _; rw [map_pl_toV]) rfl
  simp only
  rw [hck, if_neg (by rw [hc]; simp)]
theorem fewRead_back {g : GraphV} (hc : (check g).1 = 0) (hfew : fewB g = true) : FewRead (graphBytes (g.l.map NodeV.pl) g.out) := by
  have hall : ∀ n ∈ g.l, fewN n = true := by unfold fewB at hfew; simp only [Bool.and_eq_true, List.all_eq_true] at hfew; exact hfew.2
  intro n hn
  rw [(back_graph hc hfew).1] at hn
  obtain ⟨m, hm, rfl⟩ := List.mem_map.1 hn
  have h2 : m.data.xs.length ≤ 5000 ∧ m.bias.xs.length ≤ 200 ∧ m.shape.xs.length ≤ 20 := by simpa [fewN] using hall m hm
  exact ⟨h2.1, by show m.bias.xs.length ≤ 5000; omega⟩
theorem graphBytes_ok {g : GraphV} (hfew : fewB g = true) : (∀ x ∈ graphBytes (g.l.map NodeV.pl) g.out, 0 ≤ x ∧ x ≤ 255) ∧ (graphBytes (g.l.map NodeV.pl) g.out).length ≤ 1000000 := by
  have hl40 : g.l.length ≤ 40 := by unfold fewB at hfew; simp only [Bool.and_eq_true, decide_eq_true_eq] at hfew; exact hfew.1
  have hall : ∀ n ∈ g.l, fewN n = true := by unfold fewB at hfew; simp only [Bool.and_eq_true, List.all_eq_true] at hfew; exact hfew.2
  have hf : ∀ (l : List Int) k, ∀ x ∈ (l.flatMap fun v => beL v k), 0 ≤ x ∧ x ≤ 255 := fun l k x hx => by
    obtain ⟨v, _, hv⟩ := List.mem_flatMap.1 hx
    exact beL_byte v k x hv
  have hr : ∀ l : List Int, ∀ x ∈ rowBytes l, 0 ≤ x ∧ x ≤ 255 := fun l x hx => by
    rcases List.mem_append.1 hx with h | h
    · exact beL_byte _ _ x h
    · exact hf l 4 x h
  constructor
  · intro x hx
    unfold graphBytes at hx
    simp only [List.mem_append, List.mem_singleton] at hx
    rcases hx with ((rfl | h) | h) | h
    · decide
    · exact beL_byte _ _ x h
    · obtain ⟨n, _, hn⟩ := List.mem_flatMap.1 h
      unfold nodeBytes at hn
      simp only [List.mem_append] at hn
      rcases hn with ((((((((h | h) | h) | h) | h) | h) | h) | h) | h) | h
      all_goals first | exact beL_byte _ _ x h | exact hf _ _ x h | exact hr _ x h
    · exact beL_byte _ _ x h
  · rw [graphBytes_eq]
    have hnb := nodesBytes_len (l := g.l) hall
    simp only [List.length_append, beL_length, List.length_singleton]
    have : g.l.length * 20837 ≤ 40 * 20837 := Nat.mul_le_mul_right _ (by omega)
    omega
end Go.Proofs.Ytajbngkcgbehlaa
/- SY -/
namespace Go.Proofs.Ytajbngkcgbehlaa
open Go.SX Go.RowKit
theorem call_wg {B : Base} {m : Nat} {f : FuncId} {H : Heap} {S : Asn} {nx : Nat} {K : SV → Heap → Asn → Nat → Prop} {args : List SV} {g : GraphV} (hgood : (check g).1 = 0) (ha : ∀ ρ, SV.rfs ρ args = [g.val]) (hf : ∀ ar w, (callFunc f ar).run Try.prog w = .ok (.enter f ar) w)
    (hc : ∀ ρ w, Abs B ρ nx H S w → Calls Try.prog f #[g.val] w (WGPost w g))
    (h : ∀ x : RdV, x.bs = graphBytes (g.l.map NodeV.pl) g.out → x.bs.length ≤ x.cap → K (.c (.tuple #[x.val, .int .i64 0])) H (S.and ((bytsD x).past B.w0.heap.size)) nx) : callK ⟨Try.prog, B, m, tab⟩ f args H S nx K := by
  refine call_past hf (fun x : RdV => .tuple #[x.val, .int .i64 0]) (fun x => bytsD x) (fun x => x.bs = graphBytes (g.l.map NodeV.pl) g.out ∧ x.bs.length ≤ x.cap) (fun ρ w hw => ?_) (fun x hx => h x hx.1 hx.2)
  rw [ha ρ]
  refine (hc ρ w hw).mono ?_
  rintro e w' (⟨_, v, rfl, he, hn⟩ | ⟨hb, _⟩)
  · generalize graphBytes (g.l.map NodeV.pl) g.out = L at *
    have hcap : ∃ l : SX.Loc, v = .slice l.base (byts L).length l.cap ∧ (byts L).length ≤ l.cap := by
      obtain ⟨l, e, F, hF, hr, hc, _⟩ := id hn
      exact ⟨l, e, hc⟩
    obtain ⟨base, cap, e1, hD⟩ := newRows_data hn
    obtain ⟨l, e2, hc⟩ := hcap
    rw [e1] at e2
    simp only [Value.slice.injEq] at e2
    rw [byts_length] at hc e1
    exact ⟨⟨base, cap, L⟩, ⟨rfl, by show L.length ≤ cap; rw [e2.2.2]; exact hc⟩, by rw [e1]; rfl, he, hD⟩
  · exact absurd hgood hb
theorem raw_fit {w : World} {g : GraphV} (hg : g.raw w) (hf : fewB g = true) : g.fit w := by
  have h := raw_ok hg hf
  exact ⟨h.rows, h.each, h.few⟩
set_option maxRecDepth 20000 in
theorem lawGraphs_any (w : World) (g : GraphV) (hg : g.raw w) : Calls Try.prog 9 #[g.val] w fun e w' => e = .returned (.bool true) ∧ Ext w w' := by
  by_cases hf : fewB g = true
  case neg =>
    have hf : fewB g = false := by simpa using hf
    refine calls_of tab tabOk Try.func9 rfl rfl rfl [] (fun _ => ⟨none, 0⟩) [.agg [.c (.slice g.base g.l.length g.cap), .c (.int .i64 g.out)]] [] (baseA w) 0 rfl rfl (by show 1 ≤ _; decide) (abs_base w) ?_
    (repeat' ((conv => whnf) <;> first | (show callK _ 23 _ _ _ _ _; (refine call_pure (f := 23) Try.call23 (.bool true) (fun ρ w' hw => scrollFixed_any w') ?_)) | (show callK _ 16 _ _ _ _ _; (refine call_pure (f := 16) Try.call16 _ (fun ρ w' hw => few_any w' g (holds_of_abs hw fun R h => hg.later h)) ?_)) | (show Wp _ _ _ _ _ _ _; (refine Wp.go tabOk rfl ?_)) | (show @cmpK _ _ _; (first | refine cmp_yes (by omega) ?_ | refine cmp_no (by omega) ?_ | (refine cmp_both ?_ ?_ <;> intro _))) | (show wrapK _ _ _; (refine wrap_i64 (by omega) (by omega) ?_)) | (show leK _ _ _; (refine le_of (by first | exact Nat.le_refl _ | omega) ?_)) | (show roomK _ _ _; (refine room_of (by first | omega | (dsimp only; omega)) ?_)) | (show ltK _ _ _; (refine lt_of (by omega) ?_)) | (show _ ∧ _; (refine ⟨?_, ?_⟩)) | (show keepK _ _ _ _ _; (refine keep_of (by first | exact List.Sublist.refl _ | exact List.Sublist.cons _ (List.Sublist.refl _) | exact List.Sublist.cons _ (List.Sublist.cons _ (List.Sublist.refl _)) | exact List.Sublist.cons _ (List.Sublist.cons _ (List.Sublist.cons _ (List.Sublist.refl _)))) (by first | exact (fun _ _ h => h) | exact (fun _ _ h => h.1) | exact (fun _ _ h => h.1.1)) ?_)) | (show ownK _ _ _ _ _; (refine own_keep ?_))))
    rw [hf]
    (repeat' ((conv => whnf) <;> first | (show Wp _ _ _ _ _ _ _; (refine Wp.go tabOk rfl ?_)) | (show @cmpK _ _ _; (first | refine cmp_yes (by omega) ?_ | refine cmp_no (by omega) ?_ | (refine cmp_both ?_ ?_ <;> intro _))) | (show wrapK _ _ _; (refine wrap_i64 (by omega) (by omega) ?_)) | (show leK _ _ _; (refine le_of (by first | exact Nat.le_refl _ | omega) ?_)) | (show roomK _ _ _; (refine room_of (by first | omega | (dsimp only; omega)) ?_)) | (show ltK _ _ _; (refine lt_of (by omega) ?_)) | (show _ ∧ _; (refine ⟨?_, ?_⟩)) | (show keepK _ _ _ _ _; (refine keep_of (by first | exact List.Sublist.refl _ | exact List.Sublist.cons _ (List.Sublist.refl _) | exact List.Sublist.cons _ (List.Sublist.cons _ (List.Sublist.refl _)) | exact List.Sublist.cons _ (List.Sublist.cons _ (List.Sublist.cons _ (List.Sublist.refl _)))) (by first | exact (fun _ _ h => h) | exact (fun _ _ h => h.1) | exact (fun _ _ h => h.1.1)) ?_)) | (show ownK _ _ _ _ _; (refine own_keep ?_))))
    conv => whnf
    exact ends_bool (fun _ _ h => h) rfl rfl
  have hok := raw_ok hg hf
  by_cases hc : (check g).1 = 0
  case neg =>
    have hbad : ∀ {f : FuncId} {w' : World}, Calls Try.prog f #[g.val] w' (WGPost w' g) → Calls Try.prog f #[g.val] w' (fun e w'' => e = .returned (.tuple #[.slice none 0 0, .int .i64 (check g).1]) ∧ Ext w' w'') := fun h => h.mono fun e w'' he => he.elim (fun hh => absurd hh.1 hc) (fun hh => hh.2)
    refine calls_of tab tabOk Try.func9 rfl rfl rfl [] (fun _ => ⟨none, 0⟩) [.agg [.c (.slice g.base g.l.length g.cap), .c (.int .i64 g.out)]] [] (baseA w) 0 rfl rfl (by show 1 ≤ _; decide) (abs_base w) ?_
    (repeat' ((conv => whnf) <;> first | (show callK _ 23 _ _ _ _ _; (refine call_pure (f := 23) Try.call23 (.bool true) (fun ρ w' hw => scrollFixed_any w') ?_)) | (show callK _ 16 _ _ _ _ _; (refine call_pure (f := 16) Try.call16 _ (fun ρ w' hw => few_any w' g (holds_of_abs hw fun R h => hg.later h)) ?_)) | (show Wp _ _ _ _ _ _ _; (refine Wp.go tabOk rfl ?_)) | (show @cmpK _ _ _; (first | refine cmp_yes (by omega) ?_ | refine cmp_no (by omega) ?_ | (refine cmp_both ?_ ?_ <;> intro _))) | (show wrapK _ _ _; (refine wrap_i64 (by omega) (by omega) ?_)) | (show leK _ _ _; (refine le_of (by first | exact Nat.le_refl _ | omega) ?_)) | (show roomK _ _ _; (refine room_of (by first | omega | (dsimp only; omega)) ?_)) | (show ltK _ _ _; (refine lt_of (by omega) ?_)) | (show _ ∧ _; (refine ⟨?_, ?_⟩)) | (show keepK _ _ _ _ _; (refine keep_of (by first | exact List.Sublist.refl _ | exact List.Sublist.cons _ (List.Sublist.refl _) | exact List.Sublist.cons _ (List.Sublist.cons _ (List.Sublist.refl _)) | exact List.Sublist.cons _ (List.Sublist.cons _ (List.Sublist.cons _ (List.Sublist.refl _)))) (by first | exact (fun _ _ h => h) | exact (fun _ _ h => h.1) | exact (fun _ _ h => h.1.1)) ?_)) | (show ownK _ _ _ _ _; (refine own_keep ?_))))
    rw [hf]
    (repeat' ((conv => whnf) <;> first | (show @cmpK _ _ _; (first | refine cmp_no (fun h => h rfl) ?_ | refine cmp_yes hc ?_)) | (show callK _ 31 _ _ _ _ _; (refine call_pure (f := 31) Try.call31 _ (fun ρ w' hw => hbad (wgraph_any w' g (holds_of_abs hw fun R h => hok.later h) hf)) ?_)) | (show callK _ 32 _ _ _ _ _; (refine call_pure (f := 32) Try.call32 _ (fun ρ w' hw => hbad (rgraph_any w' g (holds_of_abs hw fun R h => hok.later h) hf)) ?_)) | (show strK _ _ _ _ _ _ _; (refine str_ro (bs := []) Try.underlying35 Try.underlying5 Try.underlying9 (fun R w' h => .inl rfl) rfl ?_)) | (show pureK _ _ _; (refine str_neq rfl ?_)) | (show Wp _ _ _ _ _ _ _; (refine Wp.go tabOk rfl ?_)) | (show @cmpK _ _ _; (first | refine cmp_yes (by omega) ?_ | refine cmp_no (by omega) ?_ | (refine cmp_both ?_ ?_ <;> intro _))) | (show wrapK _ _ _; (refine wrap_i64 (by omega) (by omega) ?_)) | (show leK _ _ _; (refine le_of (by first | exact Nat.le_refl _ | omega) ?_)) | (show roomK _ _ _; (refine room_of (by first | omega | (dsimp only; omega)) ?_)) | (show ltK _ _ _; (refine lt_of (by omega) ?_)) | (show _ ∧ _; (refine ⟨?_, ?_⟩)) | (show keepK _ _ _ _ _; (refine keep_of (by first | exact List.Sublist.refl _ | exact List.Sublist.cons _ (List.Sublist.refl _) | exact List.Sublist.cons _ (List.Sublist.cons _ (List.Sublist.refl _)) | exact List.Sublist.cons _ (List.Sublist.cons _ (List.Sublist.cons _ (List.Sublist.refl _)))) (by first | exact (fun _ _ h => h) | exact (fun _ _ h => h.1) | exact (fun _ _ h => h.1.1)) ?_)) | (show ownK _ _ _ _ _; (refine own_keep ?_))))
    conv => whnf
    exact ends_bool (fun _ _ h => h) rfl rfl
  have hgb := graphBytes_ok hf
  have hrd := (back_graph hc hf).2
  have hfr := fewRead_back hc hf
  refine calls_of tab tabOk Try.func9 rfl rfl rfl [] (fun _ => ⟨none, 0⟩) [.agg [.c (.slice g.base g.l.length g.cap), .c (.int .i64 g.out)]] [] (baseA w) 0 rfl rfl (by show 1 ≤ _; decide) (abs_base w) ?_
  (repeat' ((conv => whnf) <;> first | (show callK _ 23 _ _ _ _ _; (refine call_pure (f := 23) Try.call23 (.bool true) (fun ρ w' hw => scrollFixed_any w') ?_)) | (show callK _ 16 _ _ _ _ _; (refine call_pure (f := 16) Try.call16 _ (fun ρ w' hw => few_any w' g (holds_of_abs hw fun R h => hg.later h)) ?_)) | (show Wp _ _ _ _ _ _ _; (refine Wp.go tabOk rfl ?_)) | (show @cmpK _ _ _; (first | refine cmp_yes (by omega) ?_ | refine cmp_no (by omega) ?_ | (refine cmp_both ?_ ?_ <;> intro _))) | (show wrapK _ _ _; (refine wrap_i64 (by omega) (by omega) ?_)) | (show leK _ _ _; (refine le_of (by first | exact Nat.le_refl _ | omega) ?_)) | (show roomK _ _ _; (refine room_of (by first | omega | (dsimp only; omega)) ?_)) | (show ltK _ _ _; (refine lt_of (by omega) ?_)) | (show _ ∧ _; (refine ⟨?_, ?_⟩)) | (show keepK _ _ _ _ _; (refine keep_of (by first | exact List.Sublist.refl _ | exact List.Sublist.cons _ (List.Sublist.refl _) | exact List.Sublist.cons _ (List.Sublist.cons _ (List.Sublist.refl _)) | exact List.Sublist.cons _ (List.Sublist.cons _ (List.Sublist.cons _ (List.Sublist.refl _)))) (by first | exact (fun _ _ h => h) | exact (fun _ _ h => h.1) | exact (fun _ _ h => h.1.1)) ?_)) | (show ownK _ _ _ _ _; (refine own_keep ?_))))
  rw [hf]
  (repeat' ((conv => whnf) <;> first | (show Wp _ _ _ _ _ _ _; (refine Wp.go tabOk rfl ?_)) | (show @cmpK _ _ _; (first | refine cmp_yes (by omega) ?_ | refine cmp_no (by omega) ?_ | (refine cmp_both ?_ ?_ <;> intro _))) | (show wrapK _ _ _; (refine wrap_i64 (by omega) (by omega) ?_)) | (show leK _ _ _; (refine le_of (by first | exact Nat.le_refl _ | omega) ?_)) | (show roomK _ _ _; (refine room_of (by first | omega | (dsimp only; omega)) ?_)) | (show ltK _ _ _; (refine lt_of (by omega) ?_)) | (show _ ∧ _; (refine ⟨?_, ?_⟩)) | (show keepK _ _ _ _ _; (refine keep_of (by first | exact List.Sublist.refl _ | exact List.Sublist.cons _ (List.Sublist.refl _) | exact List.Sublist.cons _ (List.Sublist.cons _ (List.Sublist.refl _)) | exact List.Sublist.cons _ (List.Sublist.cons _ (List.Sublist.cons _ (List.Sublist.refl _)))) (by first | exact (fun _ _ h => h) | exact (fun _ _ h => h.1) | exact (fun _ _ h => h.1.1)) ?_)) | (show ownK _ _ _ _ _; (refine own_keep ?_))))
  refine call_wg hc (fun _ => rfl) Try.call31 (fun ρ w' hw => wgraph_any w' g (holds_of_abs hw fun R h => hok.later h) hf) (fun x hx hxc => ?_)
  (repeat' ((conv => whnf) <;> first | (show Wp _ _ _ _ _ _ _; (refine Wp.go tabOk rfl ?_)) | (show @cmpK _ _ _; (first | refine cmp_yes (by omega) ?_ | refine cmp_no (by omega) ?_ | (refine cmp_both ?_ ?_ <;> intro _))) | (show wrapK _ _ _; (refine wrap_i64 (by omega) (by omega) ?_)) | (show leK _ _ _; (refine le_of (by first | exact Nat.le_refl _ | omega) ?_)) | (show roomK _ _ _; (refine room_of (by first | omega | (dsimp only; omega)) ?_)) | (show ltK _ _ _; (refine lt_of (by omega) ?_)) | (show _ ∧ _; (refine ⟨?_, ?_⟩)) | (show keepK _ _ _ _ _; (refine keep_of (by first | exact List.Sublist.refl _ | exact List.Sublist.cons _ (List.Sublist.refl _) | exact List.Sublist.cons _ (List.Sublist.cons _ (List.Sublist.refl _)) | exact List.Sublist.cons _ (List.Sublist.cons _ (List.Sublist.cons _ (List.Sublist.refl _)))) (by first | exact (fun _ _ h => h) | exact (fun _ _ h => h.1) | exact (fun _ _ h => h.1.1)) ?_)) | (show ownK _ _ _ _ _; (refine own_keep ?_))))
  refine call_wg hc (fun _ => rfl) Try.call32 (fun ρ w' hw => rgraph_any w' g (holds_of_abs hw fun R h => hok.later h.1) hf) (fun y hy hyc => ?_)
  have h1 : RdBase x (((baseA w).and ((bytsD x).past w.heap.size)).and ((bytsD y).past w.heap.size)) := ⟨by rw [hx]; exact hgb.2, by rw [hx]; exact hgb.1, fun R w h => (bytsD x).stable (fun b hb => hb.1) (fun _ _ => rfl) h.1.2⟩
  have h2 : RdBase y (((baseA w).and ((bytsD x).past w.heap.size)).and ((bytsD y).past w.heap.size)) := ⟨by rw [hy]; exact hgb.2, by rw [hy]; exact hgb.1, fun R w h => (bytsD y).stable (fun b hb => hb.1) (fun _ _ => rfl) h.2⟩
  generalize hL : graphBytes (g.l.map NodeV.pl) g.out = L at *
  (repeat' ((conv => whnf) <;> first | (show @cmpK _ _ _; (refine cmp_yes rfl ?_)) | (show strK _ _ _ _ _ _ _; (first | refine str_ro (base := x.base) (bs := L) Try.underlying35 Try.underlying5 Try.underlying9 (fun R w' h => hx ▸ rowsA_in (h1.data R w' h)) (by rw [hx]) ?_ | refine str_ro (base := y.base) (bs := L) Try.underlying35 Try.underlying5 Try.underlying9 (fun R w' h => hy ▸ rowsA_in (h2.data R w' h)) (by rw [hy]) ?_)) | (show pureK _ _ _; (refine str_neq rfl ?_)) | (show callK _ 27 _ _ _ _ _; (refine call_read x (g.l.map NodeV.pl, g.out, 0) Try.call27 (fun ρ w' hw => by rw [← hrd, ← hx]; exact readGraph_any w' x (rd_into h1 hxc hw) (by rw [hx]; exact hfr)) (fun k hk hks => ?_))) | (show callK _ 30 _ _ _ _ _; (refine call_pure (f := 30) Try.call30 (.bool true) (fun ρ w' hw => sameGraph_eq w' g k (holds_of_abs hw fun R h => (raw_fit hg hf).later h.1.1.1) (holds_of_abs hw fun R h => fit_of hks h.2) (congrArg Prod.fst hk).symm (congrArg Prod.snd hk).symm) ?_)) | (show Wp _ _ _ _ _ _ _; (refine Wp.go tabOk rfl ?_)) | (show @cmpK _ _ _; (first | refine cmp_yes (by omega) ?_ | refine cmp_no (by omega) ?_ | (refine cmp_both ?_ ?_ <;> intro _))) | (show wrapK _ _ _; (refine wrap_i64 (by omega) (by omega) ?_)) | (show leK _ _ _; (refine le_of (by first | exact Nat.le_refl _ | omega) ?_)) | (show roomK _ _ _; (refine room_of (by first | omega | (dsimp only; omega)) ?_)) | (show ltK _ _ _; (refine lt_of (by omega) ?_)) | (show _ ∧ _; (refine ⟨?_, ?_⟩)) | (show keepK _ _ _ _ _; (refine keep_of (by first | exact List.Sublist.refl _ | exact List.Sublist.cons _ (List.Sublist.refl _) | exact List.Sublist.cons _ (List.Sublist.cons _ (List.Sublist.refl _)) | exact List.Sublist.cons _ (List.Sublist.cons _ (List.Sublist.cons _ (List.Sublist.refl _)))) (by first | exact (fun _ _ h => h) | exact (fun _ _ h => h.1) | exact (fun _ _ h => h.1.1)) ?_)) | (show ownK _ _ _ _ _; (refine own_keep ?_))))
  conv => whnf
  exact ends_bool (fun R w' h => h.1.1.1) rfl rfl
end Go.Proofs.Ytajbngkcgbehlaa
