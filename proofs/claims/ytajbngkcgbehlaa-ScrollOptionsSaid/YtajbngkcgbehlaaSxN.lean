import Derived.Test.YtajbngkcgbehlaaSxMa
namespace Go.SX
open Go.RowKit

/-! ### Calls -/
structure callK (cx : Cx) (f : FuncId) (args : List SV) (H : Heap) (S : Asn) (nx : Nat) (K : SV → Heap → Asn → Nat → Prop) : Prop where
  out : (∀ as w, (callFunc f as).run cx.P w = .ok (.enter f as) w) ∧
  ∀ ρ w, Abs cx.B ρ nx H S w → Calls cx.P f (SV.rfs ρ args).toArray w (fun e w' => ∃ v ρ' H' S' nx', e = .returned (v.rf ρ') ∧ (∀ i, i < nx → ρ' i = ρ i) ∧ nx ≤ nx' ∧ v.lt nx' ∧ Abs cx.B ρ' nx' H' S' w' ∧ K v H' S' nx')
theorem callK_def {cx : Cx} {f : FuncId} {args : List SV} {H : Heap} {S : Asn} {nx : Nat} {K : SV → Heap → Asn → Nat → Prop} : callK cx f args H S nx K = ((∀ as w, (callFunc f as).run cx.P w = .ok (.enter f as) w) ∧
  ∀ ρ w, Abs cx.B ρ nx H S w → Calls cx.P f (SV.rfs ρ args).toArray w (fun e w' => ∃ v ρ' H' S' nx', e = .returned (v.rf ρ') ∧ (∀ i, i < nx → ρ' i = ρ i) ∧ nx ≤ nx' ∧ v.lt nx' ∧ Abs cx.B ρ' nx' H' S' w' ∧ K v H' S' nx')) := propext ⟨fun h => h.out, fun h => ⟨h⟩⟩

def callV (cx : Cx) (fv : SV) (args : List SV) (H : Heap) (S : Asn) (nx : Nat) (K : SV → Heap → Asn → Nat → Prop) : Prop :=
  match fv with
  | .c (.func (.func f) a b) => (match a.toList, b.toList with
    | [], [] => callK cx f args H S nx K
    | x, y => callK cx f (cs x ++ args ++ cs y) H S nx K)
  | .fn (.func f) a b => callK cx f (a ++ args ++ b) H S nx K
  | _ => False

structure invokeK (cx : Cx) (t : TypeId) (v : SV) (m : String) (args : List SV) (H : Heap) (S : Asn) (nx : Nat) (K : SV → Heap → Asn → Nat → Prop) : Prop where
  out : ∀ ρ w, Abs cx.B ρ nx H S w → ∃ f vr, (method (cx.P.types.size + Made.depth) t (v.rf ρ) m).run cx.P w = .ok (f, vr) w ∧ (∀ as w, (callFunc f as).run cx.P w = .ok (.enter f as) w) ∧
    Calls cx.P f (vr :: SV.rfs ρ args).toArray w (fun e w' => ∃ v ρ' H' S' nx', e = .returned (v.rf ρ') ∧ (∀ i, i < nx → ρ' i = ρ i) ∧ nx ≤ nx' ∧ v.lt nx' ∧ Abs cx.B ρ' nx' H' S' w' ∧ K v H' S' nx')
theorem invokeK_def {cx : Cx} {t : TypeId} {v : SV} {m : String} {args : List SV} {H : Heap} {S : Asn} {nx : Nat} {K : SV → Heap → Asn → Nat → Prop} : invokeK cx t v m args H S nx K = (∀ ρ w, Abs cx.B ρ nx H S w → ∃ f vr, (method (cx.P.types.size + Made.depth) t (v.rf ρ) m).run cx.P w = .ok (f, vr) w ∧ (∀ as w, (callFunc f as).run cx.P w = .ok (.enter f as) w) ∧
    Calls cx.P f (vr :: SV.rfs ρ args).toArray w (fun e w' => ∃ v ρ' H' S' nx', e = .returned (v.rf ρ') ∧ (∀ i, i < nx → ρ' i = ρ i) ∧ nx ≤ nx' ∧ v.lt nx' ∧ Abs cx.B ρ' nx' H' S' w' ∧ K v H' S' nx')) := propext ⟨fun h => h.out, fun h => ⟨h⟩⟩
def invokeV (cx : Cx) (rv : SV) (m : String) (args : List SV) (H : Heap) (S : Asn) (nx : Nat) (K : SV → Heap → Asn → Nat → Prop) : Prop :=
  match rv with
  | .ifc t v => invokeK cx t v m args H S nx K
  | _ => False

def isAppend : Builtin → Bool | .append => true | _ => false
theorem isAppend_eq {b : Builtin} (h : isAppend b = true) : b = .append := by cases b <;> first | rfl | (simp [isAppend] at h)

def isEff : Op → Bool
  | .alloc _ | .box _ _ | .store _ _ _ | .makeSlice _ _ _ | .buildSlice _ _ _ | .call _ => true
  | _ => false
def opX (cx : Cx) (o : Op) (env : Env) (H : Heap) (S : Asn) (nx : Nat) (K : SV → Heap → Asn → Nat → Prop) : Prop :=
  match o with
  | .alloc t => tabK t (fun ti => K (.lp nx 0 0 0) ((nx, .box (cs ti.zero) t) :: H) S (nx + 1)) cx.tab
  | .box t x => evK cx.n env x fun v => cellsK (fun l => K (.lp nx 0 0 0) ((nx, .box l t) :: H) S (nx + 1)) v
  | .store t a x => evK cx.n env a fun p => evK cx.n env x fun v => storeE cx t p v H (fun H' => K (.c undef) H' S nx)
  | .makeSlice t l c => evK cx.n env l fun x => evK cx.n env c fun y => makeE cx t x y H nx (fun v H' => ownK v H' S (nx + 1) K)
  | .buildSlice t n ps => evpK cx.n env (fun l => buildSliceE cx t n l H nx (fun v H' => ownK v H' S (nx + 1) K)) ps.toList
  | .call c => (match c.callee with
    | .builtin b => bif isAppend b then evsK cx.n env (fun l => appendE cx c.argTypes.toList l H S nx (fun v H' => ownK v H' S (nx + 1) K)) c.args.toList
      else evsK cx.n env (fun l => builtinQ cx b c.argTypes.toList l (fun v => K v H S nx)) c.args.toList
    | .value f => evK cx.n env f fun fv => evsK cx.n env (fun l => callV cx fv l H S nx K) c.args.toList
    | .invoke r m => evK cx.n env r fun rv => evsK cx.n env (fun l => invokeV cx rv m l H S nx K) c.args.toList)
  | _ => False
def opE (cx : Cx) (o : Op) (env : Env) (H : Heap) (S : Asn) (nx : Nat) (K : SV → Heap → Asn → Nat → Prop) : Prop :=
  bif isEff o then opX cx o env H S nx K else opQ cx o env H S (fun v => K v H S nx)

section
variable {cx : Cx} (hok : ∀ p ∈ cx.tab, mkTI cx.P p.1 = some p.2)

theorem callK_sound {f : FuncId} {args : List SV} {as : Array Value} {H : Heap} {S : Asn} {nx : Nat} {K : SV → Heap → Asn → Nat → Prop} {ρ : Nat → Loc} {w : World} (h : callK cx f args H S nx K) (hw : Abs cx.B ρ nx H S w) (ha : as = (SV.rfs ρ args).toArray) :
    (callFunc f as).run cx.P w = .ok (.enter f as) w ∧ Calls cx.P f as w (fun e w' => ∃ v ρ' H' S' nx', e = .returned (v.rf ρ') ∧ (∀ i, i < nx → ρ' i = ρ i) ∧ nx ≤ nx' ∧ v.lt nx' ∧ Abs cx.B ρ' nx' H' S' w' ∧ K v H' S' nx') := by
  rw [callK_def] at h
  subst ha
  exact ⟨h.1 _ _, h.2 ρ w hw⟩

theorem rfs_append (ρ : Nat → Loc) (a b : List SV) : SV.rfs ρ (a ++ b) = SV.rfs ρ a ++ SV.rfs ρ b := by simp [SV.rfs_eq]

theorem upon_enter_of {o : Oper} {a : Act} {next : Act → World → Prop} {Q : Exit → Act → World → Prop} {f : FuncId} {args : Array Value} {w : World} {nx : Nat} {K : SV → Heap → Asn → Nat → Prop} {ρ : Nat → Loc}
    (hc : Calls cx.P f args w (fun e w' => ∃ v ρ' H' S' nx', e = .returned (v.rf ρ') ∧ (∀ i, i < nx → ρ' i = ρ i) ∧ nx ≤ nx' ∧ v.lt nx' ∧ Abs cx.B ρ' nx' H' S' w' ∧ K v H' S' nx'))
    (hn : Nexts cx ρ nx K (fun v w' => next (a.put o.dst v) w')) : o.upon cx.P a next Q (.ok (.enter f args) w) := by
  rw [Oper.upon_enter]
  refine hc.mono fun e w' he => ?_
  obtain ⟨v, ρ', H', S', nx', rfl, h1, h2, h3, h4, h5⟩ := he
  exact hn v ρ' H' S' nx' w' h1 h2 h3 h4 h5

set_option maxHeartbeats 1000000 in
include hok in
theorem opE_sound {o : Oper} {env : Env} {a : Act} {ρ : Nat → Loc} {nx : Nat} {H : Heap} {S : Asn} {K : SV → Heap → Asn → Nat → Prop} {w : World} {next : Act → World → Prop} {Q : Exit → Act → World → Prop}
    (h : opE cx o.op env H S nx K) (hs : Sat cx.n ρ nx env a) (hw : Abs cx.B ρ nx H S w) (hn : Nexts cx ρ nx K (fun v w' => next (a.put o.dst v) w')) : o.wp cx.P a w next Q := by
  have quiet : opQ cx o.op env H S (fun v => K v H S nx) → o.wp cx.P a w next Q := by
    intro hq
    obtain ⟨v, h1, h2, h3⟩ := opQ_sound hok hs hw hq
    unfold Oper.wp
    rw [h3 w hw, Oper.upon_value]
    exact hn v ρ H S nx w (fun _ _ => rfl) (Nat.le_refl _) h1 hw h2
  unfold opE at h
  cases hE : isEff o.op with
  | false => rw [hE, cond_false] at h; exact quiet h
  | true =>
  rw [hE, cond_true] at h
  obtain ⟨dst, op, type, pos, after, guard⟩ := o
  have fin : ∀ {s : Sem Value} {v : SV} {ρ' : Nat → Loc} {H' : Heap} {w' : World}, (execOp a.eval ⟨dst, op, type, pos, after, guard⟩) = (do pure (Next.value (← s)) : Sem Next) → s.run cx.P w = .ok (v.rf ρ') w' →
      (∀ i, i < nx → ρ' i = ρ i) → v.lt (nx + 1) → Abs cx.B ρ' (nx + 1) H' S w' → K v H' S (nx + 1) → Oper.wp cx.P ⟨dst, op, type, pos, after, guard⟩ a w next Q := by
    intro s v ρ' H' w' he hr h1 h2 h3 h4
    unfold Oper.wp
    rw [he]
    simp only [Sem.run_bind, hr, Result.andThen_ok, Sem.run_pure, Oper.upon_value]
    exact hn v ρ' H' S (nx + 1) w' h1 (Nat.le_succ _) h2 h3 h4
  have finO : ∀ {s : Sem Value} {v : SV} {ρ' : Nat → Loc} {H' : Heap} {w' : World}, (execOp a.eval ⟨dst, op, type, pos, after, guard⟩) = (do pure (Next.value (← s)) : Sem Next) → s.run cx.P w = .ok (v.rf ρ') w' →
      (∀ i, i < nx → ρ' i = ρ i) → v.lt (nx + 1) → Abs cx.B ρ' (nx + 1) H' S w' → ownK v H' S (nx + 1) K → Oper.wp cx.P ⟨dst, op, type, pos, after, guard⟩ a w next Q := by
    intro s v ρ' H' w' he hr h1 h2 h3 h4
    obtain ⟨v2, H2, S2, g1, g2, g3, g4⟩ := own_sound h4 h3 h2
    unfold Oper.wp
    rw [he]
    simp only [Sem.run_bind, hr, Result.andThen_ok, Sem.run_pure, Oper.upon_value]
    rw [← g1]
    exact hn v2 ρ' H2 S2 (nx + 1) w' h1 (Nat.le_succ _) g2 g3 g4
  cases op with
  | alloc t =>
    obtain ⟨ti, hti, h⟩ := tabK_spec hok h
    obtain ⟨i, d, z, hi, hd, hz, rfl⟩ := mkTI_spec hti
    refine fin (s := Instr.alloc t true (.tuple #[])) (v := .lp nx 0 0 0) (ρ' := upd ρ nx ⟨some ⟨w.heap.size, 0, none⟩, 0⟩) (w' := w.alloc (.cells z.cells t)) (by simp only [execOp]) ?_ (fun i hi => upd_lt hi) (SV.lt_lp (by omega)) ?_ h
    · simp [Instr.alloc, zeroValue, typeInfo, hi, hz, newVar, newRow, SV.rf, upd_same, add_none]
    · refine hw.alloc (fun y hy => ?_) ⟨w.heap.size, rfl, fun _ => Iff.rfl, ?_⟩
      · exact lts_cs nx _ y hy
      · rw [rfs_cs]; simpa using alloc_new w (.cells z.cells t)
  | box t x =>
    obtain ⟨v, h1, h2, h3⟩ := evK_spec hs h
    obtain ⟨l, h4, h5, h6⟩ := cellsK_spec h3 h1
    refine fin (s := Instr.box t (a.eval x)) (v := .lp nx 0 0 0) (ρ' := upd ρ nx ⟨some ⟨w.heap.size, 0, none⟩, 0⟩) (w' := w.alloc (.cells (SV.rfs ρ l).toArray t)) (by simp only [execOp]) ?_ (fun i hi => upd_lt hi) (SV.lt_lp (by omega)) ?_ h4
    · simp [Instr.box, h2, h6 ρ, newVar, newRow, SV.rf, upd_same, add_none]
    · exact hw.alloc (fun y hy => h5 y hy) ⟨w.heap.size, rfl, fun _ => Iff.rfl, alloc_new _ _⟩
  | store t x y =>
    obtain ⟨p, h1, h2, h3⟩ := evK_spec hs h
    obtain ⟨v, h4, h5, h6⟩ := evK_spec hs h1
    obtain ⟨w', H', h7, h8, h9⟩ := storeE_sound hok h4 h6 hw
    unfold Oper.wp
    simp only [execOp, h2, h5, Sem.run_bind, h7, Result.andThen_ok, Sem.run_pure, Oper.upon_skip]
    exact hn (.c undef) ρ H' S nx w' (fun _ _ => rfl) (Nat.le_refl _) (SV.lt_c _) h8 h9
  | makeSlice t x y =>
    obtain ⟨p, h1, h2, h3⟩ := evK_spec hs h
    obtain ⟨q, h4, h5, h6⟩ := evK_spec hs h1
    obtain ⟨v, ρ', H', w', h7, h8, h9, h10, h11⟩ := makeE_sound hok h4 hw
    refine finO (s := Instr.makeSlice t (a.eval x) (a.eval y)) (by simp only [execOp]) (by rw [h2, h5]; exact h7) h8 h9 h10 h11
  | buildSlice t n ps =>
    obtain ⟨l, h1, h2, h3⟩ := evpK_spec hs h
    obtain ⟨v, ρ', H', w', h7, h8, h9, h10, h11⟩ := buildSliceE_sound hok h3 h1 hw
    have e : (ps.map fun (i, x) => (i, a.eval x)) = (l.map fun p => (p.1, p.2.rf ρ)).toArray := by
      rw [← h2]; apply Array.ext'; simp
    refine finO (s := Instr.buildSlice t n (ps.map fun (i, x) => (i, a.eval x))) (by simp only [execOp]) (by rw [e]; exact h7) h8 h9 h10 h11
  | call c =>
    simp only [opX] at h
    cases hc : c.callee with
    | builtin b =>
      rw [hc] at h
      dsimp only at h
      cases hb : isAppend b with
      | true =>
        obtain rfl := isAppend_eq hb
        rw [hb, cond_true] at h
        obtain ⟨l, h1, h2, h3⟩ := evsK_spec hs h
        obtain ⟨v, ρ', H', w', h7, h8, h9, h10, h11⟩ := appendE_sound hok (ty := type) h1 hw
        have e1 : c.args.map a.eval = (SV.rfs ρ l).toArray := by rw [← h2]; apply Array.ext'; simp
        obtain ⟨kc, hkc⟩ := builtin_run (P := cx.P) a.eval c .append hc type
        unfold Oper.wp
        have : (execOp a.eval ⟨dst, .call c, type, pos, after, guard⟩).run cx.P w = .ok (.value (v.rf ρ')) w' := by
          simp only [execOp]
          rw [hkc w, e1]
          simp only [builtin, Sem.run_bind, h7, Result.andThen_ok, Sem.run_pure]
        obtain ⟨v2, H2, S2, g1, g2, g3, g4⟩ := own_sound h11 h10 h9
        rw [this, Oper.upon_value, ← g1]
        exact hn v2 ρ' H2 S2 (nx + 1) w' h8 (Nat.le_succ _) g2 g3 g4
      | false =>
        rw [hb, cond_false] at h
        refine quiet ?_
        simp only [opQ, hc]
        exact h
    | value f =>
      rw [hc] at h
      obtain ⟨fv, h1, h2, h3⟩ := evK_spec hs h
      obtain ⟨l, h4, h5, h6⟩ := evsK_spec hs h1
      have e1 : c.args.map a.eval = (SV.rfs ρ l).toArray := by rw [← h5]; apply Array.ext'; simp
      have run : ∀ (f' : FuncId) (x y : Array Value), a.eval f = .func (.func f') x y → ∀ w, (execOp a.eval ⟨dst, .call c, type, pos, after, guard⟩).run cx.P w = (callFunc f' (x ++ (SV.rfs ρ l).toArray ++ y)).run cx.P w := by
        intro f' x y hf w
        simp only [execOp, resolve, hc, e1, hf, Deferred.ofValue, Sem.run_bind, Sem.run_pure, Result.andThen_ok, invoke]
      unfold callV at h4
      split at h4
      · rename_i f' x y
        split at h4
        · rename_i hx hy
          have hx' : x = #[] := by cases x; simpa using hx
          have hy' : y = #[] := by cases y; simpa using hy
          obtain ⟨h7, h8⟩ := callK_sound (as := x ++ (SV.rfs ρ l).toArray ++ y) h4 hw (by subst hx'; subst hy'; simp)
          unfold Oper.wp
          rw [run f' x y (by rw [h2]; rfl) w, h7]
          exact upon_enter_of h8 hn
        · obtain ⟨h7, h8⟩ := callK_sound (as := x ++ (SV.rfs ρ l).toArray ++ y) h4 hw (by rw [rfs_append, rfs_append, rfs_cs, rfs_cs]; apply Array.ext'; simp)
          unfold Oper.wp
          rw [run f' x y (by rw [h2]; rfl) w, h7]
          exact upon_enter_of h8 hn
      · rename_i f' x y
        obtain ⟨h7, h8⟩ := callK_sound (as := (SV.rfs ρ x).toArray ++ (SV.rfs ρ l).toArray ++ (SV.rfs ρ y).toArray) h4 hw (by rw [rfs_append, rfs_append]; apply Array.ext'; simp)
        unfold Oper.wp
        rw [run f' _ _ (by rw [h2]; rfl) w, h7]
        exact upon_enter_of h8 hn
      · exact h4.elim
    | invoke r m =>
      rw [hc] at h
      obtain ⟨rv, h1, h2, h3⟩ := evK_spec hs h
      obtain ⟨l, h4, h5, h6⟩ := evsK_spec hs h1
      have e1 : c.args.map a.eval = (SV.rfs ρ l).toArray := by rw [← h5]; apply Array.ext'; simp
      unfold invokeV at h4
      split at h4
      · rename_i t v
        rw [invokeK_def] at h4
        obtain ⟨f, vr, hm, h7, h8⟩ := h4 ρ w hw
        have hrun : (execOp a.eval ⟨dst, .call c, type, pos, after, guard⟩).run cx.P w = .ok (.enter f (vr :: SV.rfs ρ l).toArray) w := by
          have hex : (#[Value.iface t (v.rf ρ)] ++ (SV.rfs ρ l).toArray).extract 1 (#[Value.iface t (v.rf ρ)] ++ (SV.rfs ρ l).toArray).size = (SV.rfs ρ l).toArray := by
            apply Array.ext'; simp
          have hget : (#[Value.iface t (v.rf ρ)] ++ (SV.rfs ρ l).toArray)[0]? = some (.iface t (v.rf ρ)) := by simp
          have hvr : (vr :: SV.rfs ρ l).toArray = #[vr] ++ (SV.rfs ρ l).toArray := by apply Array.ext'; simp
          rw [hvr]
          simp only [execOp, resolve, hc, e1, h2, SV.rf, Sem.run_bind, Sem.run_pure, Result.andThen_ok, invoke, hget, hex, callMethod, run_program, hm, h7]
        unfold Oper.wp
        rw [hrun]
        exact upon_enter_of h8 hn
      · exact h4.elim
  | _ => cases hE
end
end Go.SX
