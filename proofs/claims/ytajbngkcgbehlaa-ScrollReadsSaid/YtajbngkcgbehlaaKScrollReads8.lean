import Derived.DeepKeys
import Derived.Test.YtajbngkcgbehlaaRows
import Derived.Test.YtajbngkcgbehlaaKScrollReads7
/- SG -/
namespace Go.Proofs.Ytajbngkcgbehlaa
open Go.SX Go.RowKit
theorem times_idle (w : World) (b : Nat) (u : RdV) (e n : Int) (f : Value) (h : RdOk 125 w b u e) (hi : n ≤ 0 ∨ e ≠ 0) : Calls Try.prog 61 #[.pointer (some ⟨b, 0, none⟩), .int .i64 n, f] w (RdPost 125 w b u (fun _ : Unit => .tuple #[]) ((), u.bs, e)) := by
  obtain ⟨hs, hby, hrm, hd, hb⟩ := h
  refine calls_of tab tabOk Try.func61 rfl rfl rfl [(0, boxL b)] (fun _ => boxL b) [.lp 0 0 0 0, .c (.int .i64 n), .c f] _ (restA w b) 1 (by simp [SV.rfs, SV.rf, boxL, add_none]) rfl (by show 3 ≤ _; decide) (abs_box hb) ?_
  (repeat' ((conv => whnf) <;> first | (show Wp _ _ _ _ _ _ _; (first | refine Wp.go tabOk rfl ?_ | refine Wp.rounds 1 ?_)) | (show Wp _ _ _ _ _ _ _; (refine Wp.go tabOk rfl ?_)) | (show @cmpK _ _ _; (first | refine cmp_yes (by omega) ?_ | refine cmp_no (by omega) ?_ | (refine cmp_both ?_ ?_ <;> intro _))) | (show wrapK _ _ _; (refine wrap_i64 (by omega) (by omega) ?_)) | (show leK _ _ _; (refine le_of (by first | exact Nat.le_refl _ | omega) ?_)) | (show roomK _ _ _; (refine room_of (by first | omega | (dsimp only; omega)) ?_)) | (show ltK _ _ _; (refine lt_of (by omega) ?_)) | (show _ ∧ _; (refine ⟨?_, ?_⟩)) | (show keepK _ _ _ _ _; (refine keep_of (by first | exact List.Sublist.refl _ | exact List.Sublist.cons _ (List.Sublist.refl _) | exact List.Sublist.cons _ (List.Sublist.cons _ (List.Sublist.refl _)) | exact List.Sublist.cons _ (List.Sublist.cons _ (List.Sublist.cons _ (List.Sublist.refl _)))) (by first | exact (fun _ _ h => h) | exact (fun _ _ h => h.1) | exact (fun _ _ h => h.1.1)) ?_)) | (show ownK _ _ _ _ _; (refine own_keep ?_))))
  all_goals (conv => whnf)
  all_goals exact rd_ends u (SX.Rest.refl hrm) rfl (fun _ => rfl) List.mem_cons_self (fun _ _ h => h)
theorem ry_idle {B : Base} {m i : Nat} {H : Heap} {S : Asn} {nx : Nat} {K : SV → Heap → Asn → Nat → Prop} {u0 u : RdV} {s : List Int × Int} {n : Int} {f : SV} (hn : n ≤ 0 ∨ s.2 ≠ 0) (hi : (i, Ent.box (cs (rcells u s.2)) 125) ∈ H) (h0 : RdBase u0 S) (hr : SX.Rest u0 u) (hbs : u.bs = s.1)
    (h : ∀ u', SX.Rest u0 u' → u'.bs = s.1 → K (.c (.tuple #[])) (setH i (.box (cs (rcells u' s.2)) 125) H) S nx) : callK ⟨Try.prog, B, m, tab⟩ 61 [.lp i 0 0 0, .c (.int .i64 n), f] H S nx K := by
  refine callK_weak (call_box hi Try.call61 (fun x : Unit × RdV × Int => .tuple #[]) (fun x => rcells x.2.1 x.2.2) (fun _ => SX.trueA) (fun x => SX.Rest u x.2.1 ∧ (x.1, x.2.1.bs, x.2.2) = ((), u.bs, s.2)) ?_ (fun x hx => ⟨S, fun _ _ h => h.1, ?_⟩))
  · intro R ρ w' b hw hR hRo hρ hb
    rw [rfs_cs] at hb
    have e : SV.rfs ρ [.lp i 0 0 0, .c (.int .i64 n), f] = [.pointer (some ⟨b, 0, none⟩), .int .i64 n, f.rf ρ] := by simp [SV.rfs, SV.rf, hρ, add_none]
    rw [e]
    exact times_idle w' b u s.2 n (f.rf ρ) ⟨Nat.le_trans hr.len h0.small, hr.bytes h0.bytes, hr.room, (bytsD u).mono (hr.data R w' (h0.data R w' hR)) hRo, hb⟩ hn
  · obtain ⟨v, u', e'⟩ := x
    obtain ⟨h1, h2⟩ := hx
    simp only [Prod.mk.injEq] at h2
    obtain ⟨_, h3, h4⟩ := h2
    subst h4
    exact h u' (hr.trans h1) (h3.trans hbs)
def nilV : RdV := ⟨none, 0, []⟩
theorem nil_in (w : World) : RdIn w nilV := ⟨Nat.zero_le _, fun x hx => (by cases hx), Nat.le_refl _, ⟨fun r hr => (by cases hr), .inl rfl⟩⟩
set_option maxRecDepth 20000 in
theorem readGraph_nil (w : World) : Calls Try.prog 27 #[.slice none 0 0] w fun e w' => e = .returned (.tuple #[.agg #[.slice none 0 0, .int .i64 0], .int .i64 2]) ∧ Ext w w' := by
  have hu := nil_in w
  have h0 := hu.base
  refine calls_of tab tabOk Try.func27 rfl rfl rfl [] (fun _ => ⟨none, 0⟩) [.c (.slice none 0 0)] [] (baseA w) 0 rfl rfl (by show 1 ≤ _; decide) (abs_base w) ?_
  (repeat' ((conv => whnf) <;> first | (show drawK _ 2 _ _ _ _ _ _; (refine draw_quiet tabOk mixed (by kernel_rfl) ?_)) | (show Wp _ _ _ _ _ _ _; (refine Wp.go tabOk rfl ?_)) | (show @cmpK _ _ _; (first | refine cmp_yes (by omega) ?_ | refine cmp_no (by omega) ?_ | (refine cmp_both ?_ ?_ <;> intro _))) | (show wrapK _ _ _; (refine wrap_i64 (by omega) (by omega) ?_)) | (show leK _ _ _; (refine le_of (by first | exact Nat.le_refl _ | omega) ?_)) | (show roomK _ _ _; (refine room_of (by first | omega | (dsimp only; omega)) ?_)) | (show ltK _ _ _; (refine lt_of (by omega) ?_)) | (show _ ∧ _; (refine ⟨?_, ?_⟩)) | (show keepK _ _ _ _ _; (refine keep_of (by first | exact List.Sublist.refl _ | exact List.Sublist.cons _ (List.Sublist.refl _) | exact List.Sublist.cons _ (List.Sublist.cons _ (List.Sublist.refl _)) | exact List.Sublist.cons _ (List.Sublist.cons _ (List.Sublist.cons _ (List.Sublist.refl _)))) (by first | exact (fun _ _ h => h) | exact (fun _ _ h => h.1) | exact (fun _ _ h => h.1.1)) ?_)) | (show ownK _ _ _ _ _; (refine own_keep ?_))))
  refine call_newbox (f := 56) Try.call56 125 (fun x : RdV => rcells x (rdStart 6 (nilV.bs, 0)).2) (fun x => SX.Rest nilV x ∧ x.bs = (rdStart 6 (nilV.bs, 0)).1) (fun ρ w' hw => start_any w' nilV 6 (rd_into h0 hu.room hw)) (fun u1 hx => ?_)
  obtain ⟨hr, hbs⟩ := hx
  (repeat' ((conv => whnf) <;> first | (show drawK _ 2 _ _ _ _ _ _; (refine draw_tree tabOk mixed [] [] (.alt 0 (.alt 1 (.alt 2 (.one 3 (.one 4 (.done))) (.one 3 (.one 2 (.one 4 (.done))))) (.one 3 (.one 1 (.one 2 (.one 4 (.done)))))) (.alt 1 (.alt 0 (.alt 2 (.one 3 (.one 4 (.done))) (.one 3 (.one 2 (.one 4 (.done))))) (.alt 2 (.alt 0 (.one 3 (.one 4 (.done))) (.one 3 (.one 0 (.one 4 (.done))))) (.one 3 (.alt 0 (.one 2 (.one 4 (.done))) (.one 2 (.one 0 (.one 4 (.done)))))))) (.one 3 (.alt 0 (.one 1 (.one 2 (.one 4 (.done)))) (.one 1 (.alt 0 (.one 2 (.one 4 (.done))) (.one 2 (.one 0 (.one 4 (.done)))))))))) (by kernel_rfl) (by kernel_rfl) (by kernel_rfl) (List.nil_sublist _) ?_)) | (show keepK _ _ _ _ _; (refine keep_of (List.nil_sublist _) (fun _ _ h => h) ?_)) | (show callK _ 57 _ _ _ _ _; (refine ry_one (by repeat (first | exact List.mem_cons_self | apply List.mem_cons_of_mem)) h0 hr hbs (fun u hr hbs => ?_))) | (show callK _ 61 _ _ _ _ _; (refine ry_idle (.inr (by decide)) (by repeat (first | exact List.mem_cons_self | apply List.mem_cons_of_mem)) h0 hr hbs (fun u hr hbs => ?_))) | (show callK _ 60 _ _ _ _ _; (refine ry_end (by repeat (first | exact List.mem_cons_self | apply List.mem_cons_of_mem)) h0 hr hbs (fun u hr hbs => ?_))) | (show @cmpK _ _ _; (refine cmp_yes (by decide) ?_)) | (show Wp _ _ _ _ _ _ _; (refine Wp.go tabOk rfl ?_)) | (show @cmpK _ _ _; (first | refine cmp_yes (by omega) ?_ | refine cmp_no (by omega) ?_ | (refine cmp_both ?_ ?_ <;> intro _))) | (show wrapK _ _ _; (refine wrap_i64 (by omega) (by omega) ?_)) | (show leK _ _ _; (refine le_of (by first | exact Nat.le_refl _ | omega) ?_)) | (show roomK _ _ _; (refine room_of (by first | omega | (dsimp only; omega)) ?_)) | (show ltK _ _ _; (refine lt_of (by omega) ?_)) | (show _ ∧ _; (refine ⟨?_, ?_⟩)) | (show keepK _ _ _ _ _; (refine keep_of (by first | exact List.Sublist.refl _ | exact List.Sublist.cons _ (List.Sublist.refl _) | exact List.Sublist.cons _ (List.Sublist.cons _ (List.Sublist.refl _)) | exact List.Sublist.cons _ (List.Sublist.cons _ (List.Sublist.cons _ (List.Sublist.refl _)))) (by first | exact (fun _ _ h => h) | exact (fun _ _ h => h.1) | exact (fun _ _ h => h.1.1)) ?_)) | (show ownK _ _ _ _ _; (refine own_keep ?_))))
  all_goals (conv => whnf)
  all_goals exact ends_of (fun _ _ h => h) (fun _ => rfl) rfl
/-! options held against options -/
theorem wf_of {x : Int} (h : -9223372036854775808 ≤ x ∧ x ≤ 9223372036854775807) : (Lit.int .i64 x).wf = true := by
  simp [Lit.wf, IntKind.min, IntKind.max, IntKind.signed, IntKind.bits]
  exact ⟨h.1, by omega⟩
theorem c_opt : Try.prog.cellsOf 46 = 5 := by kernel_rfl
theorem c_int' : Try.prog.cellsOf 3 = 1 := by kernel_rfl
theorem c_bool : Try.prog.cellsOf 4 = 1 := by kernel_rfl
def OptV.fits (o : OptV) : Prop := (-9223372036854775808 ≤ o.layout ∧ o.layout ≤ 9223372036854775807) ∧ (-9223372036854775808 ≤ o.rows ∧ o.rows ≤ 9223372036854775807)
def OptV.lits (o : OptV) : List Lit := [.int .i64 o.layout, .bool o.tidy, .bool o.lazy_, .bool o.giant, .int .i64 o.rows]
theorem opt_lits (o : OptV) (ho : o.fits) : Try.prog.keyLits 2 46 o.cells = some o.lits := by
  obtain ⟨h1, h2⟩ := ho
  simp [Program.keyLits, Try.underlying46, c_opt, OptV.cells, List.mapM_cons, Try.underlying3, Try.underlying4, c_int', c_bool, wf_of h1, wf_of h2]
  rfl
theorem opt_eql {o : OptV} (ho : o.fits) {ox oy : Operand} {K : SV → Prop} (h : K (.c (.bool true))) : pureK Try.prog (do eqGuard .eql 46 ox oy o.val o.val; binOp .eql 46 o.val o.val) K := by
  rw [pureK_def]
  refine ⟨_, fun w => ?_, h⟩
  have h1 : (eqGuard .eql 46 ox oy o.val o.val).run Try.prog w = .ok () w := by
    have : Try.prog.eqGuardType Try.prog.depth 46 = false := by kernel_rfl
    simp [eqGuard, OptV.val, this]
  obtain ⟨r, h2, h3⟩ := run_equalIn_deep (P := Try.prog) 9998 2 46 (by kernel_rfl) w 2 2 o.val o.val o.lits o.lits (by simp [OptV.val, OptV.cells, Value.formed, Try.underlying46, c_opt]) (by simp [OptV.val, OptV.cells, Value.formed, Try.underlying46, c_opt]) (opt_lits o ho) (opt_lits o ho)
  have hr : r = true := h3.2 rfl
  subst hr
  have h4 : (Op.equal 46 o.val o.val).run Try.prog w = .ok true w := h2
  simp only [Sem.run_bind, h1, Result.andThen_ok]
  simp [OptV.val, binOp] at h4 ⊢
  rw [h4]; rfl
end Go.Proofs.Ytajbngkcgbehlaa
/- SH -/
namespace Go.Proofs.Ytajbngkcgbehlaa
open Go.SX Go.RowKit
theorem readOpt_write {o : OptV} (ho : o.good) : readOpt (optBytes o) = (o, 0) := by
  obtain ⟨l, t, z, g, r⟩ := o
  obtain ⟨h1, h2, h3, h4⟩ := ho
  simp only at h1 h2 h3 h4
  have e1 : (0 * 256 + r / 256 % 256) * 256 + r / 1 % 256 = r := by omega
  have e0 : (0 : Int) * 256 + l = l := by omega
  cases t <;> cases z <;> cases g <;>
    simp [readOpt, optZ, optR, optD, optC, optB, optA, rdStart, rdNum, rdFail, rdTruth, rdEnd, valB, optBytes, beL, bitI] <;> omega
theorem call_opts {B : Base} {m : Nat} {f : FuncId} {H : Heap} {S : Asn} {nx : Nat} {K : SV → Heap → Asn → Nat → Prop} {args : List SV} {o : OptV} (ho : o.good) (ha : ∀ ρ, SV.rfs ρ args = [o.val]) (hf : ∀ ar w, (callFunc f ar).run Try.prog w = .ok (.enter f ar) w)
    (hc : ∀ w, Calls Try.prog f #[o.val] w (OptPost w o))
    (h : ∀ x : RdV, x.bs = optBytes o → x.bs.length ≤ x.cap → K (.c (.tuple #[x.val, .int .i64 0])) H (S.and ((bytsD x).past B.w0.heap.size)) nx) : callK ⟨Try.prog, B, m, tab⟩ f args H S nx K := by
  refine call_past hf (fun x : RdV => .tuple #[x.val, .int .i64 0]) (fun x => bytsD x) (fun x => x.bs = optBytes o ∧ x.bs.length ≤ x.cap) (fun ρ w hw => ?_) (fun x hx => h x hx.1 hx.2)
  rw [ha ρ]
  refine (hc w).mono ?_
  rintro e w' (⟨_, v, rfl, he, hn⟩ | ⟨hb, _⟩)
  · have hcap : ∃ l : SX.Loc, v = .slice l.base (byts (optBytes o)).length l.cap ∧ (byts (optBytes o)).length ≤ l.cap := by
      obtain ⟨l, e, F, hF, hr, hc, _⟩ := id hn
      exact ⟨l, e, hc⟩
    obtain ⟨base, cap, e1, hD⟩ := newRows_data hn
    obtain ⟨l, e2, hc⟩ := hcap
    rw [e1] at e2
    simp only [Value.slice.injEq] at e2
    rw [byts_length] at hc e1
    exact ⟨⟨base, cap, optBytes o⟩, ⟨rfl, by show (optBytes o).length ≤ cap; rw [e2.2.2]; exact hc⟩, by rw [e1]; rfl, he, hD⟩
  · exact absurd ho hb
theorem optBytes_ok {o : OptV} (ho : o.good) : (∀ x ∈ optBytes o, 0 ≤ x ∧ x ≤ 255) ∧ (optBytes o).length ≤ 1000000 := by
  obtain ⟨h1, h2, h3, h4⟩ := ho
  have hb : ∀ b : Bool, 0 ≤ bitI b ∧ bitI b ≤ 255 := fun b => by cases b <;> decide
  refine ⟨fun x hx => ?_, by show 7 ≤ 1000000; decide⟩
  rcases List.mem_append.1 hx with hx | hx
  · simp only [List.mem_cons, List.not_mem_nil, or_false] at hx
    rcases hx with rfl | rfl | rfl | rfl | rfl
    · decide
    · exact ⟨h1, h2⟩
    · exact hb _
    · exact hb _
    · exact hb _
  · exact beL_byte _ _ x hx
theorem opts_base {o : OptV} (ho : o.good) {x : RdV} (hx : x.bs = optBytes o) {S : Asn} {N : Nat} : RdBase x (S.and ((bytsD x).past N)) := ⟨by rw [hx]; exact (optBytes_ok ho).2, by rw [hx]; exact (optBytes_ok ho).1, fun R w h => (bytsD x).stable (fun b hb => hb.1) (fun _ _ => rfl) h.2⟩
def o0 : OptV := ⟨1, false, false, true, 16⟩
theorem o0_good : o0.good := by unfold OptV.good o0; decide
theorem o0_fits : o0.fits := by unfold OptV.fits o0; decide
set_option maxRecDepth 20000 in
theorem scrollFixed_any (w : World) : Calls Try.prog 23 #[] w fun e w' => e = .returned (.bool true) ∧ Ext w w' := by
  refine calls_of tab tabOk Try.func23 rfl rfl rfl [] (fun _ => ⟨none, 0⟩) [] [] (baseA w) 0 rfl rfl (by show 0 ≤ _; decide) (abs_base w) ?_
  (repeat' ((conv => whnf) <;> first | (show Wp _ _ _ _ _ _ _; (refine Wp.go tabOk rfl ?_)) | (show @cmpK _ _ _; (first | refine cmp_yes (by omega) ?_ | refine cmp_no (by omega) ?_ | (refine cmp_both ?_ ?_ <;> intro _))) | (show wrapK _ _ _; (refine wrap_i64 (by omega) (by omega) ?_)) | (show leK _ _ _; (refine le_of (by first | exact Nat.le_refl _ | omega) ?_)) | (show roomK _ _ _; (refine room_of (by first | omega | (dsimp only; omega)) ?_)) | (show ltK _ _ _; (refine lt_of (by omega) ?_)) | (show _ ∧ _; (refine ⟨?_, ?_⟩)) | (show keepK _ _ _ _ _; (refine keep_of (by first | exact List.Sublist.refl _ | exact List.Sublist.cons _ (List.Sublist.refl _) | exact List.Sublist.cons _ (List.Sublist.cons _ (List.Sublist.refl _)) | exact List.Sublist.cons _ (List.Sublist.cons _ (List.Sublist.cons _ (List.Sublist.refl _)))) (by first | exact (fun _ _ h => h) | exact (fun _ _ h => h.1) | exact (fun _ _ h => h.1.1)) ?_)) | (show ownK _ _ _ _ _; (refine own_keep ?_))))
  refine call_opts (o := o0) o0_good (fun _ => rfl) Try.call24 (fun w => options_any w o0) (fun x hx hcap => ?_)
  have h0 : RdBase x ((baseA w).and ((bytsD x).past w.heap.size)) := opts_base o0_good hx
  have hrd : readOpt x.bs = (o0, 0) := by rw [hx]; exact readOpt_write o0_good
  have hRd : ∀ ρ (w' : World), Abs ⟨w, []⟩ ρ 0 [] ((baseA w).and ((bytsD x).past w.heap.size)) w' → Calls Try.prog 26 #[x.val] w' (fun e w'' => e = .returned (.tuple #[o0.val, .int .i64 0]) ∧ Ext w' w'') := fun ρ w' hw => by
    have := readOptions_any w' x (rd_into h0 hcap hw)
    unfold ROPost at this
    rw [hrd] at this
    exact this
  (repeat' ((conv => whnf) <;> first | (show callK _ 26 _ _ _ _ _; (refine call_pure (f := 26) Try.call26 _ (fun ρ w' hw => hRd ρ w' hw) ?_)) | (show callK _ 27 _ _ _ _ _; (refine call_pure (f := 27) Try.call27 _ (fun ρ w' hw => readGraph_nil w') ?_)) | (show strK _ _ _ _ _ _ _; (first | refine str_ro (bs := optBytes o0) Try.underlying35 Try.underlying5 Try.underlying9 (fun R w' h => hx ▸ rowsA_in (h0.data R w' h)) (by rw [hx]) ?_)) | (show pureK _ _ _; (first | refine str_eql (by kernel_rfl) ?_ | refine opt_eql (o := o0) o0_fits ?_)) | (show Wp _ _ _ _ _ _ _; (refine Wp.go tabOk rfl ?_)) | (show @cmpK _ _ _; (first | refine cmp_yes (by omega) ?_ | refine cmp_no (by omega) ?_ | (refine cmp_both ?_ ?_ <;> intro _))) | (show wrapK _ _ _; (refine wrap_i64 (by omega) (by omega) ?_)) | (show leK _ _ _; (refine le_of (by first | exact Nat.le_refl _ | omega) ?_)) | (show roomK _ _ _; (refine room_of (by first | omega | (dsimp only; omega)) ?_)) | (show ltK _ _ _; (refine lt_of (by omega) ?_)) | (show _ ∧ _; (refine ⟨?_, ?_⟩)) | (show keepK _ _ _ _ _; (refine keep_of (by first | exact List.Sublist.refl _ | exact List.Sublist.cons _ (List.Sublist.refl _) | exact List.Sublist.cons _ (List.Sublist.cons _ (List.Sublist.refl _)) | exact List.Sublist.cons _ (List.Sublist.cons _ (List.Sublist.cons _ (List.Sublist.refl _)))) (by first | exact (fun _ _ h => h) | exact (fun _ _ h => h.1) | exact (fun _ _ h => h.1.1)) ?_)) | (show ownK _ _ _ _ _; (refine own_keep ?_))))
  conv => whnf
  exact ends_bool (fun R w' h => h.1) rfl rfl
set_option maxRecDepth 20000 in
theorem lawOptions_any (w : World) (o : OptV) (ho : o.fits) : Calls Try.prog 7 #[o.val] w fun e w' => e = .returned (.bool true) ∧ Ext w w' := by
  refine calls_of tab tabOk Try.func7 rfl rfl rfl [] (fun _ => ⟨none, 0⟩) [.agg [.c (.int .i64 o.layout), .c (.bool o.tidy), .c (.bool o.lazy_), .c (.bool o.giant), .c (.int .i64 o.rows)]] [] (baseA w) 0 rfl rfl (by show 1 ≤ _; decide) (abs_base w) ?_
  by_cases hg : o.good
  · (repeat' ((conv => whnf) <;> first | (show callK _ 23 _ _ _ _ _; (refine call_pure (f := 23) Try.call23 (.bool true) (fun ρ w' hw => scrollFixed_any w') ?_)) | (show Wp _ _ _ _ _ _ _; (refine Wp.go tabOk rfl ?_)) | (show @cmpK _ _ _; (first | refine cmp_yes (by omega) ?_ | refine cmp_no (by omega) ?_ | (refine cmp_both ?_ ?_ <;> intro _))) | (show wrapK _ _ _; (refine wrap_i64 (by omega) (by omega) ?_)) | (show leK _ _ _; (refine le_of (by first | exact Nat.le_refl _ | omega) ?_)) | (show roomK _ _ _; (refine room_of (by first | omega | (dsimp only; omega)) ?_)) | (show ltK _ _ _; (refine lt_of (by omega) ?_)) | (show _ ∧ _; (refine ⟨?_, ?_⟩)) | (show keepK _ _ _ _ _; (refine keep_of (by first | exact List.Sublist.refl _ | exact List.Sublist.cons _ (List.Sublist.refl _) | exact List.Sublist.cons _ (List.Sublist.cons _ (List.Sublist.refl _)) | exact List.Sublist.cons _ (List.Sublist.cons _ (List.Sublist.cons _ (List.Sublist.refl _)))) (by first | exact (fun _ _ h => h) | exact (fun _ _ h => h.1) | exact (fun _ _ h => h.1.1)) ?_)) | (show ownK _ _ _ _ _; (refine own_keep ?_))))
    refine call_opts (o := o) hg (fun _ => rfl) Try.call24 (fun w => options_any w o) (fun x hx hcap => ?_)
    have h0 : RdBase x ((baseA w).and ((bytsD x).past w.heap.size)) := opts_base hg hx
    (repeat' ((conv => whnf) <;> first | (show Wp _ _ _ _ _ _ _; (refine Wp.go tabOk rfl ?_)) | (show @cmpK _ _ _; (first | refine cmp_yes (by omega) ?_ | refine cmp_no (by omega) ?_ | (refine cmp_both ?_ ?_ <;> intro _))) | (show wrapK _ _ _; (refine wrap_i64 (by omega) (by omega) ?_)) | (show leK _ _ _; (refine le_of (by first | exact Nat.le_refl _ | omega) ?_)) | (show roomK _ _ _; (refine room_of (by first | omega | (dsimp only; omega)) ?_)) | (show ltK _ _ _; (refine lt_of (by omega) ?_)) | (show _ ∧ _; (refine ⟨?_, ?_⟩)) | (show keepK _ _ _ _ _; (refine keep_of (by first | exact List.Sublist.refl _ | exact List.Sublist.cons _ (List.Sublist.refl _) | exact List.Sublist.cons _ (List.Sublist.cons _ (List.Sublist.refl _)) | exact List.Sublist.cons _ (List.Sublist.cons _ (List.Sublist.cons _ (List.Sublist.refl _)))) (by first | exact (fun _ _ h => h) | exact (fun _ _ h => h.1) | exact (fun _ _ h => h.1.1)) ?_)) | (show ownK _ _ _ _ _; (refine own_keep ?_))))
    refine call_opts (o := o) hg (fun _ => rfl) Try.call25 (fun w => refOptions_any w o) (fun y hy hcapy => ?_)
    have h1 : RdBase y (((baseA w).and ((bytsD x).past w.heap.size)).and ((bytsD y).past w.heap.size)) := opts_base hg hy
    have h2 : RdBase x (((baseA w).and ((bytsD x).past w.heap.size)).and ((bytsD y).past w.heap.size)) := ⟨h0.small, h0.bytes, fun R w h => h0.data R w h.1⟩
    have hrd : readOpt x.bs = (o, 0) := by rw [hx]; exact readOpt_write hg
    have hRd : ∀ {ρ nx H} {w' : World}, Abs ⟨w, []⟩ ρ nx H (((baseA w).and ((bytsD x).past w.heap.size)).and ((bytsD y).past w.heap.size)) w' → Calls Try.prog 26 #[x.val] w' (fun e w'' => e = .returned (.tuple #[o.val, .int .i64 0]) ∧ Ext w' w'') := fun {ρ nx H w'} hw => by
      have := readOptions_any w' x (rd_into h2 hcap hw)
      unfold ROPost at this
      rw [hrd] at this
      exact this
    (repeat' ((conv => whnf) <;> first | (show callK _ 26 _ _ _ _ _; (refine call_pure (f := 26) Try.call26 _ (fun ρ w' hw => hRd hw) ?_)) | (show strK _ _ _ _ _ _ _; (first | refine str_ro (base := x.base) (bs := optBytes o) Try.underlying35 Try.underlying5 Try.underlying9 (fun R w' h => hx ▸ rowsA_in (h2.data R w' h)) (by rw [hx]) ?_ | refine str_ro (base := y.base) (bs := optBytes o) Try.underlying35 Try.underlying5 Try.underlying9 (fun R w' h => hy ▸ rowsA_in (h1.data R w' h)) (by rw [hy]) ?_)) | (show pureK _ _ _; (first | refine str_neq rfl ?_ | refine opt_eql (o := o) ho ?_)) | (show Wp _ _ _ _ _ _ _; (refine Wp.go tabOk rfl ?_)) | (show @cmpK _ _ _; (first | refine cmp_yes (by omega) ?_ | refine cmp_no (by omega) ?_ | (refine cmp_both ?_ ?_ <;> intro _))) | (show wrapK _ _ _; (refine wrap_i64 (by omega) (by omega) ?_)) | (show leK _ _ _; (refine le_of (by first | exact Nat.le_refl _ | omega) ?_)) | (show roomK _ _ _; (refine room_of (by first | omega | (dsimp only; omega)) ?_)) | (show ltK _ _ _; (refine lt_of (by omega) ?_)) | (show _ ∧ _; (refine ⟨?_, ?_⟩)) | (show keepK _ _ _ _ _; (refine keep_of (by first | exact List.Sublist.refl _ | exact List.Sublist.cons _ (List.Sublist.refl _) | exact List.Sublist.cons _ (List.Sublist.cons _ (List.Sublist.refl _)) | exact List.Sublist.cons _ (List.Sublist.cons _ (List.Sublist.cons _ (List.Sublist.refl _)))) (by first | exact (fun _ _ h => h) | exact (fun _ _ h => h.1) | exact (fun _ _ h => h.1.1)) ?_)) | (show ownK _ _ _ _ _; (refine own_keep ?_))))
    conv => whnf
    exact ends_bool (fun R w' h => h.1.1) rfl rfl
  · have hbad : ∀ {f : FuncId}, (∀ w, Calls Try.prog f #[o.val] w (OptPost w o)) → ∀ w', Calls Try.prog f #[o.val] w' (fun e w'' => e = .returned (.tuple #[.slice none 0 0, .int .i64 1]) ∧ Ext w' w'') := fun h w' => (h w').mono fun e w'' he => he.elim (fun hh => absurd hh.1 hg) (fun hh => hh.2)
    (repeat' ((conv => whnf) <;> first | (show callK _ 23 _ _ _ _ _; (refine call_pure (f := 23) Try.call23 (.bool true) (fun ρ w' hw => scrollFixed_any w') ?_)) | (show callK _ 24 _ _ _ _ _; (refine call_pure (f := 24) Try.call24 _ (fun ρ w' hw => hbad (fun w => options_any w o) w') ?_)) | (show callK _ 25 _ _ _ _ _; (refine call_pure (f := 25) Try.call25 _ (fun ρ w' hw => hbad (fun w => refOptions_any w o) w') ?_)) | (show strK _ _ _ _ _ _ _; (refine str_ro (bs := []) Try.underlying35 Try.underlying5 Try.underlying9 (fun R w' h => .inl rfl) rfl ?_)) | (show pureK _ _ _; (refine str_neq rfl ?_)) | (show callK _ 26 _ _ _ _ _; (refine call_pure (f := 26) Try.call26 _ (fun ρ w' hw => readOptions_any w' nilV (nil_in w')) ?_)) | (show Wp _ _ _ _ _ _ _; (refine Wp.go tabOk rfl ?_)) | (show @cmpK _ _ _; (first | refine cmp_yes (by omega) ?_ | refine cmp_no (by omega) ?_ | (refine cmp_both ?_ ?_ <;> intro _))) | (show wrapK _ _ _; (refine wrap_i64 (by omega) (by omega) ?_)) | (show leK _ _ _; (refine le_of (by first | exact Nat.le_refl _ | omega) ?_)) | (show roomK _ _ _; (refine room_of (by first | omega | (dsimp only; omega)) ?_)) | (show ltK _ _ _; (refine lt_of (by omega) ?_)) | (show _ ∧ _; (refine ⟨?_, ?_⟩)) | (show keepK _ _ _ _ _; (refine keep_of (by first | exact List.Sublist.refl _ | exact List.Sublist.cons _ (List.Sublist.refl _) | exact List.Sublist.cons _ (List.Sublist.cons _ (List.Sublist.refl _)) | exact List.Sublist.cons _ (List.Sublist.cons _ (List.Sublist.cons _ (List.Sublist.refl _)))) (by first | exact (fun _ _ h => h) | exact (fun _ _ h => h.1) | exact (fun _ _ h => h.1.1)) ?_)) | (show ownK _ _ _ _ _; (refine own_keep ?_))))
    conv => whnf
    exact ends_bool (fun _ _ h => h) rfl rfl
end Go.Proofs.Ytajbngkcgbehlaa
/- SP -/
namespace Go.Proofs.Ytajbngkcgbehlaa
open Go.SX Go.RowKit Go.ChangeShapes Go.WideShapes Go.ChangeAt
/-! plain: few numbers are read of few bytes -/
theorem readMany_le {α : Type} {f : RdS → α × RdS} (hf : ∀ s, (f s).2.1.length ≤ s.1.length) : ∀ (k : Nat) (s : RdS), (readMany f k s).2.1.length ≤ s.1.length
  | 0, s => Nat.le_refl _
  | k + 1, s => by
    unfold readMany
    split
    · exact Nat.le_refl _
    · exact Nat.le_trans (readMany_le hf k _) (hf s)
theorem readMany_few {α : Type} {f : RdS → α × RdS} {c : Nat} (hf : ∀ s, (f s).2.2 = 0 → (f s).2.1.length + c ≤ s.1.length) : ∀ (k : Nat) (s : RdS), c * (readMany f k s).1.length ≤ s.1.length + c
  | 0, s => by simp [readMany]
  | k + 1, s => by
    unfold readMany
    split
    · simp
    · simp only [List.length_cons]
      by_cases h : (f s).2.2 = 0
      · have h1 := hf s h
        have h2 := readMany_few hf k (f s).2
        rw [Nat.mul_succ]; omega
      · rw [readMany_stop f (.inr h)]; simp
theorem readMany_mem {α : Type} {f : RdS → α × RdS} (hf : ∀ s, (f s).2.1.length ≤ s.1.length) : ∀ (k : Nat) (s : RdS) (x : α), x ∈ (readMany f k s).1 → ∃ s' : RdS, s'.1.length ≤ s.1.length ∧ x = (f s').1
  | 0, s, x, h => by simp [readMany] at h
  | k + 1, s, x, h => by
    unfold readMany at h
    split at h
    · simp at h
    · rcases List.mem_cons.1 h with h | h
      · exact ⟨s, Nat.le_refl _, h⟩
      · obtain ⟨s', h1, h2⟩ := readMany_mem hf k _ x h
        exact ⟨s', Nat.le_trans h1 (hf s), h2⟩
theorem rdNum_le (n : Nat) (s : RdS) : (rdNum n s).2.1.length ≤ s.1.length := by
  unfold rdNum
  split
  · exact Nat.le_refl _
  · split
    · exact Nat.le_refl _
    · simp
theorem rdNum_eat {n : Nat} {s : RdS} (h : (rdNum n s).2.2 = 0) : (rdNum n s).2.1.length + n ≤ s.1.length := by
  unfold rdNum at h ⊢
  split at h
  · exact absurd h (by assumption)
  · split at h
    · cases h
    · rw [if_neg (by assumption), if_neg (by assumption)]
      simp only [List.length_drop]; omega
theorem rdSigned_le (s : RdS) : (rdSigned s).2.1.length ≤ s.1.length := rdNum_le 4 s
theorem rdSigned_eat (s : RdS) (h : (rdSigned s).2.2 = 0) : (rdSigned s).2.1.length + 4 ≤ s.1.length := rdNum_eat h
theorem readRow_le (s : RdS) : (readRow s).2.1.length ≤ s.1.length := Nat.le_trans (readMany_le rdSigned_le _ _) (rdNum_le 2 s)
theorem readRow_few (s : RdS) : 4 * (readRow s).1.length ≤ s.1.length + 4 := by
  have := readMany_few (f := rdSigned) (c := 4) rdSigned_eat (rdNum 2 s).1.toNat (rdNum 2 s).2
  have h2 := rdNum_le 2 s
  show 4 * (readMany rdSigned _ _).1.length ≤ _
  omega
theorem readShape_le (s : RdS) : (readShape s).2.1.length ≤ s.1.length := Nat.le_trans (readMany_le (rdNum_le 1) _ _) (rdNum_le 1 s)
theorem ndD_le (s : RdS) : (ndZ s).2.1.length ≤ s.1.length :=
  Nat.le_trans (rdNum_le 1 _) (Nat.le_trans (rdSigned_le _) (Nat.le_trans (rdSigned_le _) (Nat.le_trans (readShape_le _) (Nat.le_trans (rdNum_le 1 _) (Nat.le_trans (rdNum_le 1 _) (rdNum_le 1 _))))))
theorem readNode_le (s : RdS) : (readNode s).2.1.length ≤ s.1.length := Nat.le_trans (readRow_le _) (Nat.le_trans (readRow_le _) (ndD_le s))
theorem few_read {bs : List Int} (h : bs.length ≤ 8000) : FewRead bs := by
  intro n hn
  obtain ⟨s, hs, rfl⟩ := readMany_mem readNode_le _ _ n hn
  have h0 : (rdStart 6 (bs, 0)).1.length ≤ bs.length := rdNum_le 1 (bs, 0)
  have h1 := rdNum_le 1 (rdStart 6 (bs, 0))
  have h2 := ndD_le s
  have h3 := readRow_few (ndZ s).2
  have h4 := readRow_few (ndD s).2
  have h5 := readRow_le (ndZ s).2
  exact ⟨by show (readRow (ndZ s).2).1.length ≤ 5000; omega, by show (readRow (ndD s).2).1.length ≤ 5000; have : (ndD s).2.1.length ≤ (ndZ s).2.1.length := h5; omega⟩
theorem optB_bytes {s : RdS} (hb : ∀ x ∈ s.1, 0 ≤ x ∧ x ≤ 255) : ∀ x ∈ (rdTruth s).2.1, 0 ≤ x ∧ x ≤ 255 := rdNum_bytes (n := 1) hb
theorem readOpt_fits {bs : List Int} (hb : ∀ x ∈ bs, 0 ≤ x ∧ x ≤ 255) : (readOpt bs).1.fits := by
  have h0 : ∀ x ∈ (rdStart 7 (bs, 0)).1, 0 ≤ x ∧ x ≤ 255 := rdNum_bytes (n := 1) (s := (bs, 0)) hb
  have h1 := rd1_bound h0
  have h2 := rdTwo_bound (s := (optD bs).2) (optB_bytes (optB_bytes (optB_bytes (rdNum_bytes h0))))
  unfold readOpt
  split
  · show zeroO.fits; unfold OptV.fits zeroO; decide
  · exact ⟨⟨by show _ ≤ (optA bs).1; unfold optA; omega, by show (optA bs).1 ≤ _; unfold optA; omega⟩, ⟨by show _ ≤ (optR bs).1; unfold optR; omega, by show (optR bs).1 ≤ _; unfold optR; omega⟩⟩
/-! bytes that are handed in -/
structure RdRaw (w : World) (u : RdV) : Prop where
  rows : RowsI w u.base 1 (byts u.bs)
  bytes : ∀ x ∈ u.bs, 0 ≤ x ∧ x ≤ 255
  room : u.bs.length ≤ u.cap
  none_ : u.base = none → u.cap = 0
theorem addr_plainR {w : World} {a : Addr} {v : Value} (h : w.cell? a = some v) : a = ⟨a.block, a.off, none⟩ := by
  obtain ⟨b, o, p⟩ := a
  cases p with
  | none => rfl
  | some x =>
    simp only [World.cell?, Option.isSome_some, if_true] at h
    split at h <;> cases h
theorem raw_data {w : World} {t : RdV} (h : RowsI w t.base 1 (byts t.bs)) : (bytsD t).holds (fun b => b < w.heap.size) w := by
  refine ⟨fun r hr => ?_, ?_⟩
  · simp only [byts, List.mem_map] at hr
    obtain ⟨x, _, rfl⟩ := hr
    exact ⟨rfl, fun v hv => by simp at hv; subst hv; rfl⟩
  rcases h with h0 | ⟨a, ha, hc⟩
  · exact .inl h0
  · cases hl : t.bs with
    | nil => exact .inl rfl
    | cons x r =>
      have h1 : w.cell? (a.add (0 * 1 + 0)) = some (.int .u8 x) := hc 0 [.int .u8 x] (by rw [hl]; rfl) 0 _ rfl
      have h2 : a.add (0 * 1 + 0) = a := by simp [Addr.add]
      rw [h2] at h1
      have ea := addr_plainR h1
      refine .inr ⟨a.block, a.off, by rw [ha, ← ea], cell_block h1, fun i q hi j v hj => ?_⟩
      have := hc i q (by rw [hl]; exact hi) j v hj
      rw [ea, add_none] at this
      exact this
theorem raw_in {w : World} {u : RdV} (h : RdRaw w u) (hs : u.bs.length ≤ 1000000) : RdIn w u := ⟨hs, h.bytes, h.room, raw_data h.rows⟩
theorem freeze_byts {w0 : World} {i n : Nat} (xs : List Int) {R0 : List (List Value)} {T : TypeId} {H : Heap} {S : Asn} {nx : Nat} {K : SV → Heap → Asn → Nat → Prop} (hN : ∀ R w, S.holds R w → (baseA w0).holds R w) (he : R0 = byts xs) (hn : n = xs.length) (h : ∀ u : RdV, u.bs = xs → u.bs.length ≤ u.cap → K (.c u.val) H (S.and ((bytsD u).past w0.heap.size)) nx) : ownK (.os i n) ((i, .rows R0 1 T) :: H) S nx K := by
  subst he hn
  exact own_freeze w0.heap.size (fun R w hS b hb => (hN R w hS b hb).1) (fun l hl => h ⟨l.base, l.cap, xs⟩ rfl (by simpa [byts_length] using hl))
theorem fit_of {g : GraphV} {R : Nat → Prop} {w : World} {N : Nat} (hs : g.sane) (h : ((graphD g).past N).holds R w) : g.fit w :=
  ⟨rowsA_in h.1, fun n hn => sane_ok (hs.each n hn) ((nodeD n false).mono (h.2 n hn) (fun _ _ => trivial)), by have := hs.few; omega⟩
theorem call_read {B : Base} {m : Nat} {f : FuncId} {H : Heap} {S : Asn} {nx : Nat} {K : SV → Heap → Asn → Nat → Prop} (u : RdV) (r : List NodeP × Int × Int) (hf : ∀ ar w, (callFunc f ar).run Try.prog w = .ok (.enter f ar) w)
    (hc : ∀ ρ w, Abs B ρ nx H S w → Calls Try.prog f #[u.val] w (ReadPost w r))
    (h : ∀ g : GraphV, g.pl = (r.1, r.2.1) → g.sane → K (.c (.tuple #[g.val, .int .i64 r.2.2])) H (S.and ((graphD g).past B.w0.heap.size)) nx) : callK ⟨Try.prog, B, m, tab⟩ f [.c u.val] H S nx K := by
  refine call_past hf (fun g : GraphV => .tuple #[g.val, .int .i64 r.2.2]) graphD (fun g => g.pl = (r.1, r.2.1) ∧ g.sane) (fun ρ w hw => ?_) (fun g hg => h g hg.1 hg.2)
  refine (hc ρ w hw).mono ?_
  rintro e w' ⟨g, h1, h2, h3, h4, h5⟩
  exact ⟨g, ⟨h1, h2⟩, h3, h4, h5⟩
theorem into_in {B : Base} {ρ : Nat → SX.Loc} {nx : Nat} {H : Heap} {S : Asn} {w : World} {u : RdV} (h0 : RdBase u S) (hr : u.bs.length ≤ u.cap) (hw : Abs B ρ nx H S w) : RdIn w u := rd_into h0 hr hw
theorem byts_row {l : List Int} : ∀ r ∈ byts l, r.length = 1 ∧ ∀ v ∈ r, v.oneCell' = true := fun r hr => by
  simp only [byts, List.mem_map] at hr
  obtain ⟨x, _, rfl⟩ := hr
  exact ⟨rfl, fun v hv => by simp at hv; subst hv; rfl⟩
set_option maxRecDepth 20000 in
theorem lawReads_any (w : World) (u : RdV) (hu : RdRaw w u) : Calls Try.prog 8 #[u.val] w fun e w' => e = .returned (.bool true) ∧ Ext w w' := by
  by_cases hl : u.bs.length ≤ 8000
  case neg =>
    refine calls_of tab tabOk Try.func8 rfl rfl rfl [] (fun _ => ⟨none, 0⟩) [.c u.val] [] (baseA w) 0 rfl rfl (by show 1 ≤ _; decide) (abs_base w) ?_
    (repeat' ((conv => whnf) <;> first | (show callK _ 23 _ _ _ _ _; (refine call_pure (f := 23) Try.call23 (.bool true) (fun ρ w' hw => scrollFixed_any w') ?_)) | (show Wp _ _ _ _ _ _ _; (refine Wp.go tabOk rfl ?_)) | (show @cmpK _ _ _; (first | refine cmp_yes (by omega) ?_ | refine cmp_no (by omega) ?_ | (refine cmp_both ?_ ?_ <;> intro _))) | (show wrapK _ _ _; (refine wrap_i64 (by omega) (by omega) ?_)) | (show leK _ _ _; (refine le_of (by first | exact Nat.le_refl _ | omega) ?_)) | (show roomK _ _ _; (refine room_of (by first | omega | (dsimp only; omega)) ?_)) | (show ltK _ _ _; (refine lt_of (by omega) ?_)) | (show _ ∧ _; (refine ⟨?_, ?_⟩)) | (show keepK _ _ _ _ _; (refine keep_of (by first | exact List.Sublist.refl _ | exact List.Sublist.cons _ (List.Sublist.refl _) | exact List.Sublist.cons _ (List.Sublist.cons _ (List.Sublist.refl _)) | exact List.Sublist.cons _ (List.Sublist.cons _ (List.Sublist.cons _ (List.Sublist.refl _)))) (by first | exact (fun _ _ h => h) | exact (fun _ _ h => h.1) | exact (fun _ _ h => h.1.1)) ?_)) | (show ownK _ _ _ _ _; (refine own_keep ?_))))
    conv => whnf
    exact ends_bool (fun _ _ h => h) rfl rfl
  have hin := raw_in hu (by omega)
  have h0 := hin.base
  have hfew := few_read hl
  refine calls_of tab tabOk Try.func8 rfl rfl rfl [] (fun _ => ⟨none, 0⟩) [.c u.val] [] (baseA w) 0 rfl rfl (by show 1 ≤ _; decide) (abs_base w) ?_
  (repeat' ((conv => whnf) <;> first | (show callK _ 23 _ _ _ _ _; (refine call_pure (f := 23) Try.call23 (.bool true) (fun ρ w' hw => scrollFixed_any w') ?_)) | (show Wp _ _ _ _ _ _ _; (refine Wp.go tabOk rfl ?_)) | (show @cmpK _ _ _; (first | refine cmp_yes (by omega) ?_ | refine cmp_no (by omega) ?_ | (refine cmp_both ?_ ?_ <;> intro _))) | (show wrapK _ _ _; (refine wrap_i64 (by omega) (by omega) ?_)) | (show leK _ _ _; (refine le_of (by first | exact Nat.le_refl _ | omega) ?_)) | (show roomK _ _ _; (refine room_of (by first | omega | (dsimp only; omega)) ?_)) | (show ltK _ _ _; (refine lt_of (by omega) ?_)) | (show _ ∧ _; (refine ⟨?_, ?_⟩)) | (show keepK _ _ _ _ _; (refine keep_of (by first | exact List.Sublist.refl _ | exact List.Sublist.cons _ (List.Sublist.refl _) | exact List.Sublist.cons _ (List.Sublist.cons _ (List.Sublist.refl _)) | exact List.Sublist.cons _ (List.Sublist.cons _ (List.Sublist.cons _ (List.Sublist.refl _)))) (by first | exact (fun _ _ h => h) | exact (fun _ _ h => h.1) | exact (fun _ _ h => h.1.1)) ?_))))
  refine own_keep ?_
  obtain ⟨base, cap, bs⟩ := u
  cases base
  case' none =>
    obtain rfl : cap = 0 := hu.none_ rfl
    obtain rfl : bs = [] := by
      rcases hu.rows with h | ⟨a, ha, _⟩
      · simpa [byts] using h
      · cases ha
    (repeat' ((conv => whnf) <;> first | (show callK _ 23 _ _ _ _ _; (refine call_pure (f := 23) Try.call23 (.bool true) (fun ρ w' hw => scrollFixed_any w') ?_)) | (show roomK _ _ _; (refine room_of (by decide) ?_)) | (show Wp _ _ _ _ _ _ _; (refine Wp.go tabOk rfl ?_)) | (show @cmpK _ _ _; (first | refine cmp_yes (by omega) ?_ | refine cmp_no (by omega) ?_ | (refine cmp_both ?_ ?_ <;> intro _))) | (show wrapK _ _ _; (refine wrap_i64 (by omega) (by omega) ?_)) | (show leK _ _ _; (refine le_of (by first | exact Nat.le_refl _ | omega) ?_)) | (show roomK _ _ _; (refine room_of (by first | omega | (dsimp only; omega)) ?_)) | (show ltK _ _ _; (refine lt_of (by omega) ?_)) | (show _ ∧ _; (refine ⟨?_, ?_⟩)) | (show keepK _ _ _ _ _; (refine keep_of (by first | exact List.Sublist.refl _ | exact List.Sublist.cons _ (List.Sublist.refl _) | exact List.Sublist.cons _ (List.Sublist.cons _ (List.Sublist.refl _)) | exact List.Sublist.cons _ (List.Sublist.cons _ (List.Sublist.cons _ (List.Sublist.refl _)))) (by first | exact (fun _ _ h => h) | exact (fun _ _ h => h.1) | exact (fun _ _ h => h.1.1)) ?_))))
    conv => whnf
    refine freeze_byts (w0 := w) [] (fun R w' h => h) rfl rfl (fun x hx hxc => ?_)
  case' some a =>
    (repeat' ((conv => whnf) <;> first | (show callK _ 23 _ _ _ _ _; (refine call_pure (f := 23) Try.call23 (.bool true) (fun ρ w' hw => scrollFixed_any w') ?_)) | (show roRowsK _ _ _ _ _; (refine roRows_in (byts_length bs) (fun R w' h => rowsA_in (h0.data R w' h)) byts_row ?_)) | (show roomK _ _ _; (refine room_of (by first | omega | (dsimp only; omega) | (rw [byts_length]; dsimp only at hl; omega) | (simp only [List.length_take, List.length_append, byts_length]; dsimp only at hl; omega)) ?_)) | (show Wp _ _ _ _ _ _ _; (refine Wp.go tabOk rfl ?_)) | (show @cmpK _ _ _; (first | refine cmp_yes (by omega) ?_ | refine cmp_no (by omega) ?_ | (refine cmp_both ?_ ?_ <;> intro _))) | (show wrapK _ _ _; (refine wrap_i64 (by omega) (by omega) ?_)) | (show leK _ _ _; (refine le_of (by first | exact Nat.le_refl _ | omega) ?_)) | (show roomK _ _ _; (refine room_of (by first | omega | (dsimp only; omega)) ?_)) | (show ltK _ _ _; (refine lt_of (by omega) ?_)) | (show _ ∧ _; (refine ⟨?_, ?_⟩)) | (show keepK _ _ _ _ _; (refine keep_of (by first | exact List.Sublist.refl _ | exact List.Sublist.cons _ (List.Sublist.refl _) | exact List.Sublist.cons _ (List.Sublist.cons _ (List.Sublist.refl _)) | exact List.Sublist.cons _ (List.Sublist.cons _ (List.Sublist.cons _ (List.Sublist.refl _)))) (by first | exact (fun _ _ h => h) | exact (fun _ _ h => h.1) | exact (fun _ _ h => h.1.1)) ?_))))
    conv => whnf
    refine freeze_byts (w0 := w) bs (fun R w' h => h) rfl (by show 0 + (byts bs).length = _; rw [byts_length]; omega) (fun x hx hxc => ?_)
  all_goals
    have h1 : RdBase x ((baseA w).and ((bytsD x).past w.heap.size)) := ⟨by rw [hx]; exact h0.small, by rw [hx]; exact h0.bytes, fun R w h => (bytsD x).stable (fun b hb => hb.1) (fun _ _ => rfl) h.2⟩
    have hfx : FewRead x.bs := by rw [hx]; exact hfew
    have hof : (readOpt x.bs).1.fits := readOpt_fits h1.bytes
    (repeat' ((conv => whnf) <;> first | (show callK _ 27 _ _ _ _ _; (refine call_read x (readGraph x.bs) Try.call27 (fun ρ w' hw => readGraph_any w' x (rd_into h1 hxc hw) hfx) (fun g hg hgs => ?_))) | (show callK _ 26 _ _ _ _ _; (refine call_pure (f := 26) Try.call26 _ (fun ρ w' hw => readOptions_any w' x (rd_into (rdBase_and h1) hxc hw)) ?_)) | (show callK _ 28 _ _ _ _ _; (refine call_read _ (readGraph x.bs) Try.call28 (fun ρ w' hw => by rw [hx]; exact refReadGraph_any w' _ (rd_into (rdBase_and (rdBase_and h0)) hin.room hw) hfew) (fun k hk hks => ?_))) | (show callK _ 29 _ _ _ _ _; (refine call_pure (f := 29) Try.call29 (.tuple #[(readOpt x.bs).1.val, .int .i64 (readOpt x.bs).2]) (fun ρ w' hw => by rw [hx]; exact refReadOptions_any w' _ (rd_into (rdBase_and (rdBase_and (rdBase_and h0))) hin.room hw)) ?_)) | (show strK _ _ _ _ _ _ _; (first | refine str_ro (base := x.base) (bs := x.bs) Try.underlying35 Try.underlying5 Try.underlying9 (fun R w' h => rowsA_in (h1.data R w' h.1.1)) rfl ?_ | refine str_ro (bs := x.bs) Try.underlying35 Try.underlying5 Try.underlying9 (fun R w' h => by rw [hx]; exact rowsA_in (h0.data R w' h.1.1.1)) (by rw [hx]) ?_)) | (show pureK _ _ _; (first | refine str_eql rfl ?_ | refine opt_eql (o := (readOpt x.bs).1) hof ?_)) | (show callK _ 30 _ _ _ _ _; (refine call_pure (f := 30) Try.call30 (.bool true) (fun ρ w' hw => sameGraph_eq w' g k (holds_of_abs hw fun R h => fit_of hgs h.1.2) (holds_of_abs hw fun R h => fit_of hks h.2) (congrArg Prod.fst (hg.trans hk.symm)) (congrArg Prod.snd (hg.trans hk.symm))) ?_)) | (show Wp _ _ _ _ _ _ _; (refine Wp.go tabOk rfl ?_)) | (show @cmpK _ _ _; (first | refine cmp_yes (by omega) ?_ | refine cmp_no (by omega) ?_ | (refine cmp_both ?_ ?_ <;> intro _))) | (show wrapK _ _ _; (refine wrap_i64 (by omega) (by omega) ?_)) | (show leK _ _ _; (refine le_of (by first | exact Nat.le_refl _ | omega) ?_)) | (show roomK _ _ _; (refine room_of (by first | omega | (dsimp only; omega)) ?_)) | (show ltK _ _ _; (refine lt_of (by omega) ?_)) | (show _ ∧ _; (refine ⟨?_, ?_⟩)) | (show keepK _ _ _ _ _; (refine keep_of (by first | exact List.Sublist.refl _ | exact List.Sublist.cons _ (List.Sublist.refl _) | exact List.Sublist.cons _ (List.Sublist.cons _ (List.Sublist.refl _)) | exact List.Sublist.cons _ (List.Sublist.cons _ (List.Sublist.cons _ (List.Sublist.refl _)))) (by first | exact (fun _ _ h => h) | exact (fun _ _ h => h.1) | exact (fun _ _ h => h.1.1)) ?_)) | (show ownK _ _ _ _ _; (refine own_keep ?_))))
    conv => whnf
    exact ends_bool (fun R w' h => h.1.1.1) rfl rfl
end Go.Proofs.Ytajbngkcgbehlaa
/- SI -/
namespace Go.Proofs.Ytajbngkcgbehlaa
open Go.SX Go.ChangeShapes Go.WideShapes Go.ChangeAt Go.RowKit
theorem ownS : ownKnob Try.prog.godebug = none := by kernel_rfl
theorem laidOutS : laidOutB Try.prog = true := by kernel_rfl
theorem wf_back {x : Int} (h : (Lit.int .i64 x).wf = true) : -9223372036854775808 ≤ x ∧ x ≤ 9223372036854775807 := by
  simp [Lit.wf, IntKind.min, IntKind.max, IntKind.signed, IntKind.bits] at h
  omega
theorem opens_ofS {H : Type} {enc : TypeId × Value → H} {P : Program} {w : World} {t : TypeId} {Q : List Value → Prop} {base : Nat} {sp : Nat → Bool} {held : Bool} {v : Value} {d : DataW H} {ps : List MemPlace} (h : Opens P w t Q) (ht : DataW.Trod enc P w base sp held t v d ps) : Q v.cells.toList := by
  obtain ⟨n, hn⟩ := ht
  exact h.out enc base sp held n _ _ hn
theorem list5 {cs : List Value} (h : cs.length = 5) : ∃ a b c d e, cs = [a, b, c, d, e] := by
  match cs, h with
  | [a, b, c, d, e], _ => exact ⟨a, b, c, d, e, rfl⟩
def OptQ (f : Field) (cs : List Value) : Prop := (f.type = 3 → ∃ i, (Lit.int .i64 i).wf = true ∧ cs = [.int .i64 i]) ∧ (f.type = 4 → ∃ b, cs = [.bool b])
theorem opens_opt (w : World) : Opens Try.prog w 46 fun cs => ∃ o : OptV, o.fits ∧ cs = o.cells := by
  have h := opens_struct (P := Try.prog) (w := w) (k := 5) (Q := OptQ) Try.underlying46 (by kernel_rfl) (by
    intro f hf
    have hi : ∀ t, t = 3 → Opens Try.prog w t fun cs => (t = 3 → ∃ i, (Lit.int .i64 i).wf = true ∧ cs = [.int .i64 i]) ∧ (t = 4 → ∃ b, cs = [.bool b]) := by
      rintro t rfl
      exact Opens.mono (opens_int Try.underlying3) fun cs hc => ⟨fun _ => hc, fun h => (by cases h)⟩
    have hs : ∀ t, t = 4 → Opens Try.prog w t fun cs => (t = 3 → ∃ i, (Lit.int .i64 i).wf = true ∧ cs = [.int .i64 i]) ∧ (t = 4 → ∃ b, cs = [.bool b]) := by
      rintro t rfl
      exact Opens.mono (opens_bool Try.underlying4) fun cs hc => ⟨fun h => (by cases h), fun _ => hc⟩
    simp only [List.mem_toArray, List.mem_cons, List.not_mem_nil, or_false] at hf
    rcases hf with rfl | rfl | rfl | rfl | rfl
    all_goals first | (refine Opens.mono (Q' := OptQ _) (hi _ rfl) ?_; intro cs h; exact h) | (refine Opens.mono (Q' := OptQ _) (hs _ rfl) ?_; intro cs h; exact h))
  refine Opens.mono h ?_
  rintro cs ⟨hl, hf⟩
  obtain ⟨a, b, c, d, e, rfl⟩ := list5 hl
  simp only [List.mem_toArray, List.mem_cons, List.not_mem_nil, or_false, forall_eq_or_imp, forall_eq, OptQ, c_int', c_bool, List.drop_zero, List.drop_succ_cons, List.take_succ_cons, List.take_zero, forall_const, true_and, and_true, reduceCtorEq, Nat.reduceEqDiff, false_implies] at hf
  obtain ⟨⟨x1, w1, e1⟩, ⟨x2, e2⟩, ⟨x3, e3⟩, ⟨x4, e4⟩, ⟨x5, w5, e5⟩⟩ := hf
  simp only [List.cons.injEq, and_true] at e1 e2 e3 e4 e5
  subst e1 e2 e3 e4 e5
  exact ⟨⟨x1, x2, x3, x4, x5⟩, ⟨wf_back w1, wf_back w5⟩, rfl⟩
set_option maxRecDepth 100000 in
theorem options_lifted (os : Os) (started : os.Started) (H : Type) (enc : TypeId × Value → H) :
    ReturnsInHanded {} Try.checked os 7 .any (Rows.scrollOptionsSpec.pre6 enc Try.prog Try.f7 Rows.scrollOptionsRow.domain false) (Rows.scrollOptionsSpec.post enc Try.prog Try.f7 false true false false) := by
  refine returnsInHanded_of_change (C := Try.checked) ownS started (by kernel_rfl) Try.func7
    (ChangeSpec.witness6 (enc := enc) (C := Try.checked) false ⟨#[], #[.agg #[.int .i64 0, .bool false, .bool false, .bool false, .int .i64 0]], []⟩ 8 (by kernel_rfl) (by kernel_rfl) (by kernel_rfl) (by kernel_rfl)) ?_
  intro W base args ds gs before hval0 hW hcnd _
  have hval : ∀ (j : Nat) t v, Try.f7.params[j]? = some t → args[j]? = some v → Value.okWide Try.prog W .any base t v := hval0
  have hW' := hW
  obtain ⟨p, q, hA0, hV, rfl, hfz, hnd⟩ := hW
  have hA : DataW.TrodAll enc Try.prog W 0 (fun _ => true) true Try.f7.params.toList args.toList ds p := hA0
  rw [Try.params7] at hA hval
  obtain ⟨v0, d0, rfl, rfl, h0⟩ := trodAll_one hA
  obtain ⟨o, ho, hv0⟩ := opens_ofS (opens_opt W) h0
  obtain rfl : v0 = o.val := cells_agg Try.underlying46 (hval 0 46 v0 rfl rfl) hv0
  exact law_contract laidOutS (by kernel_rfl) rfl rfl Try.underlying4 rfl hW' (lawOptions_any W o ho)
/-- ScrollOptions: for all options the law returns true, and they read as before; no condition. -/
theorem scrollOptions_holds : Rows.ScrollOptionsSaid :=
  OpenClaim.holds_of_wide 7 Try.f7 rfl rfl rfl rfl rfl rfl rfl ⟨rfl, rfl, rfl, rfl, rfl⟩ rfl rfl rfl rfl rfl (by kernel_rfl) Try.func7 (by kernel_rfl)
    (of_decide_eq_true (by kernel_rfl)) (by unfold Func.isWrapper; first | (rw [if_pos (by decide +kernel)]; kernel_rfl) | (rw [if_neg (by decide +kernel)]; exact ⟨rfl, rfl⟩))
    (fun os started H enc _ => options_lifted os started H enc)
end Go.Proofs.Ytajbngkcgbehlaa
