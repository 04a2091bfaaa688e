import Derived.Test.YtajbngkcgbehlaaSxG
namespace Go.SX
open Go.RowKit

def fieldAddrH (cx : Cx) (t : TypeId) (p : SV) (f : Nat) (H : Heap) (K : SV → Prop) : Prop :=
  match p with
  | .lp i j k g => findK i (fun e => match e with
      | .box _ _ => fieldAddrQ cx t (.lp i j k g) f K
      | .rows xs _ _ => ltK j xs.length (fieldAddrQ cx t (.lp i j k g) f K)
      | _ => False) H
  | .c v => fieldAddrQ cx t (.c v) f K
  | _ => False

/-- whatever else -/
structure rawQ (cx : Cx) (o : Op) (env : Env) (H : Heap) (S : Asn) (K : SV → Prop) : Prop where
  out : ∃ v, K v ∧ ∀ (ρ : Nat → Loc) nx a w (d : Option Tmp) (type : TypeId) (pos : String) (af : Array Edge) (g : Option (Nat × Bool)), Sat cx.n ρ nx env a → Abs cx.B ρ nx H S w →
    v.lt nx ∧ (execOp a.eval ⟨d, o, type, pos, af, g⟩).run cx.P w = .ok (.value (v.rf ρ)) w
theorem rawQ_def {cx : Cx} {o : Op} {env : Env} {H : Heap} {S : Asn} {K : SV → Prop} : rawQ cx o env H S K = (∃ v, K v ∧ ∀ (ρ : Nat → Loc) nx a w (d : Option Tmp) (type : TypeId) (pos : String) (af : Array Edge) (g : Option (Nat × Bool)), Sat cx.n ρ nx env a → Abs cx.B ρ nx H S w →
    v.lt nx ∧ (execOp a.eval ⟨d, o, type, pos, af, g⟩).run cx.P w = .ok (.value (v.rf ρ)) w) := propext ⟨fun h => h.out, fun h => ⟨h⟩⟩

/-- bytes made a string -/
structure strK (cx : Cx) (s d : TypeId) (a : SV) (H : Heap) (S : Asn) (K : SV → Prop) : Prop where
  out : ∃ v, K (.c v) ∧ ∀ (ρ : Nat → Loc) nx w, Abs cx.B ρ nx H S w → (convert s d (a.rf ρ)).run cx.P w = .ok v w
theorem strK_def {cx : Cx} {s d : TypeId} {a : SV} {H : Heap} {S : Asn} {K : SV → Prop} : strK cx s d a H S K = (∃ v, K (.c v) ∧ ∀ (ρ : Nat → Loc) nx w, Abs cx.B ρ nx H S w → (convert s d (a.rf ρ)).run cx.P w = .ok v w) := propext ⟨fun h => h.out, fun h => ⟨h⟩⟩
def convH (cx : Cx) (s d : TypeId) (a : SV) (H : Heap) (S : Asn) (K : SV → Prop) : Prop :=
  match a with
  | .os i n => strK cx s d (.os i n) H S K
  | .c (.slice b l c) => strK cx s d (.c (.slice b l c)) H S K
  | a => convQ cx s d a K

def opQ (cx : Cx) (o : Op) (env : Env) (H : Heap) (S : Asn) (K : SV → Prop) : Prop :=
  match o with
  | .move x => evK cx.n env x K
  | .assign x => evK cx.n env x K
  | .pick c a b => evK cx.n env c fun v => (match v with | .c (.bool true) => evK cx.n env a K | .c (.bool false) => evK cx.n env b K | _ => False)
  | .load t x => evK cx.n env x fun p => loadQ cx t p H S K
  | .fieldAddr t x f => evK cx.n env x fun p => fieldAddrH cx t p f H K
  | .field t x f => evK cx.n env x fun p => fieldQ cx t p f K
  | .indexAddr t x i => evK cx.n env x fun a => evK cx.n env i fun b => idxQ cx t a b H K
  | .binOp op t x y _ => evK cx.n env x fun a => evK cx.n env y fun b => binQ cx op t x y a b K
  | .unOp op _ x => evK cx.n env x fun a => unQ op a K
  | .convert s d x => evK cx.n env x fun a => convH cx s d a H S K
  | .extract x i => evK cx.n env x fun a => extrQ a i K
  | .build t ps => evpK cx.n env (fun l => buildQ cx t l K) ps.toList
  | .makeInterface t x => evK cx.n env x fun a => ifaceQ cx t a K
  | .makeFunc fn a b => evsK cx.n env (fun la => evsK cx.n env (fun lb => K (.fn fn la lb)) b.toList) a.toList
  | .nilCheck x => evK cx.n env x fun v => nilQ v H K
  | .slice t x lo hi mx => evK cx.n env x fun v => optK cx.n env (fun l => optK cx.n env (fun h => optK cx.n env (fun m => sliceQ cx t v H l h m K) mx) hi) lo
  | .call c => (match c.callee with
    | .builtin b => evsK cx.n env (fun l => builtinQ cx b c.argTypes.toList l K) c.args.toList
    | _ => False)
  | o => rawQ cx o env H S K

theorem base_of_box {B : Base} {ρ : Nat → Loc} {nx : Nat} {H : Heap} {S : Asn} {w : World} {i : Nat} {l : List SV} {T : TypeId} (hw : Abs B ρ nx H S w) (h : (i, Ent.box l T) ∈ H) : (ρ i).base.isSome = true := by
  obtain ⟨R, φ, hw⟩ := hw
  obtain ⟨b, h1, _⟩ := hw.ent _ h
  simp only at h1
  simp [h1]
theorem base_of_rows {B : Base} {ρ : Nat → Loc} {nx : Nat} {H : Heap} {S : Asn} {w : World} {i j : Nat} {xs : List (List Value)} {k : Nat} {T : TypeId} (hw : Abs B ρ nx H S w) (h : (i, Ent.rows xs k T) ∈ H)
    (hj : j < xs.length) : (ρ i).base.isSome = true := by
  obtain ⟨R, φ, hw⟩ := hw
  obtain ⟨_, hcap, hent⟩ := hw.ent _ h
  simp only at hcap hent
  rcases hent with ⟨hb, hc0, _⟩ | ⟨b, off, c, hb1, _⟩
  · exfalso; omega
  · simp [hb1]

section
variable {cx : Cx} (hok : ∀ p ∈ cx.tab, mkTI cx.P p.1 = some p.2)

include hok in
/-- For a walk of which the base is not known: the values are known, the run under a fact on the base. -/
theorem fieldAddrQ_sound' {t : TypeId} {i j k g f : Nat} {K : SV → Prop} {nx : Nat} (hp : (SV.lp i j k g).lt nx) (h : fieldAddrQ cx t (.lp i j k g) f K) :
    ∃ v, v.lt nx ∧ K v ∧ ∀ ρ : Nat → Loc, (ρ i).base.isSome = true → ∀ w, (Instr.fieldAt t ((SV.lp i j k g).rf ρ) f).run cx.P w = .ok (v.rf ρ) w := by
  unfold fieldAddrQ at h
  obtain ⟨ti, hti, h⟩ := tabK_spec hok h
  obtain ⟨x, hx, h⟩ := fldK_spec h
  obtain ⟨fs, gf, hd, hg, ho, hs, _⟩ := flds_spec hti hx
  cases hz : Nat.beq x.2.1 0 with
  | true => rw [hz] at h; exact h.elim
  | false =>
    rw [hz, cond_false] at h
    have hnz : x.2.1 ≠ 0 := Nat.ne_of_beq_eq_false hz
    have hplace : ∀ (a : Addr) (w : World), (fieldPlace a gf).run cx.P w = .ok (a.add x.1) w := by
      intro a w
      cases hq : cx.P.info? gf.type with
      | none => simp [hs, hq] at hnz
      | some gi =>
        have : gi.size ≠ 0 := by simpa [hs, hq] using hnz
        simp [fieldPlace, run_sizeOf_of hq, this, ho]
    refine ⟨.lp i j k (g + x.1), fun y hy => hp y hy, h, fun ρ hb w => ?_⟩
    obtain ⟨a, ha⟩ := Option.isSome_iff_exists.1 hb
    simp [SV.rf, ha, Instr.fieldAt, run_underlying hd, hg, Instr.sureAddr, hplace, add_add, Nat.add_assoc]

/-- What a quiet operation gives. -/
abbrev Gives (cx : Cx) (ρ : Nat → Loc) (nx : Nat) (H : Heap) (S : Asn) (K : SV → Prop) (s : Sem Value) : Prop :=
  ∃ v, v.lt nx ∧ K v ∧ ∀ w, Abs cx.B ρ nx H S w → s.run cx.P w = .ok (v.rf ρ) w
theorem Gives.next {cx : Cx} {ρ : Nat → Loc} {nx : Nat} {H : Heap} {S : Asn} {K : SV → Prop} {s : Sem Value} (h : Gives cx ρ nx H S K s) :
    ∃ v, v.lt nx ∧ K v ∧ ∀ w, Abs cx.B ρ nx H S w → (do pure (Next.value (← s)) : Sem Next).run cx.P w = .ok (.value (v.rf ρ)) w := by
  obtain ⟨v, h1, h2, h3⟩ := h
  exact ⟨v, h1, h2, fun w hw => by simp only [Sem.run_bind, h3 w hw, Result.andThen_ok, Sem.run_pure]⟩

include hok in
theorem fieldAddrH_sound {t : TypeId} {p : SV} {f : Nat} {K : SV → Prop} {ρ : Nat → Loc} {nx : Nat} {H : Heap} {S : Asn} (hp : p.lt nx) (h : fieldAddrH cx t p f H K) :
    Gives cx ρ nx H S K (Instr.fieldAt t (p.rf ρ) f) := by
  cases p with
  | lp i j k g =>
    simp only [fieldAddrH] at h
    obtain ⟨e, he, h⟩ := findK_spec h
    cases e with
    | box l T =>
      obtain ⟨v, h1, h2, h3⟩ := fieldAddrQ_sound' hok hp h
      exact ⟨v, h1, h2, fun w hw => h3 ρ (base_of_box hw he) w⟩
    | rows xs k' T =>
      dsimp only at h
      rw [ltK_def] at h
      obtain ⟨hj, h⟩ := h
      obtain ⟨v, h1, h2, h3⟩ := fieldAddrQ_sound' hok hp h
      exact ⟨v, h1, h2, fun w hw => h3 ρ (base_of_rows hw he hj) w⟩
    | ext o => exact h.elim
  | c v =>
    obtain ⟨v, h1, h2, h3⟩ := fieldAddrQ_sound hok (ρ := ρ) hp h (fun _ _ _ _ h => by cases h)
    exact ⟨v, h1, h2, fun w _ => h3 w⟩
  | _ => exact h.elim

theorem builtin_run {P : Program} (ρ : Operand → Value) (c : Call) (b : Builtin) (hc : c.callee = .builtin b) (type : TypeId) :
    ∃ k, ∀ w, (do let d ← resolve ρ c type; invoke d.target d.args : Sem Next).run P w = (builtin b c.argTypes type k (c.args.map ρ)).run P w := by
  refine ⟨c.args.map (fun | .const _ => true | _ => false), fun w => ?_⟩
  simp only [resolve, hc, Sem.run_bind, Sem.run_pure, Result.andThen_ok, invoke]
  rfl

theorem rawQ_sound {o : Op} {d : Option Tmp} {type : TypeId} {pos : String} {af : Array Edge} {g : Option (Nat × Bool)} {env : Env} {a : Act} {ρ : Nat → Loc} {nx : Nat} {H : Heap} {S : Asn} {K : SV → Prop} (hs : Sat cx.n ρ nx env a)
    {w1 : World} (hw1 : Abs cx.B ρ nx H S w1) (h : rawQ cx o env H S K) : ∃ v, v.lt nx ∧ K v ∧ ∀ w, Abs cx.B ρ nx H S w → (execOp a.eval ⟨d, o, type, pos, af, g⟩).run cx.P w = .ok (.value (v.rf ρ)) w := by
  rw [rawQ_def] at h
  obtain ⟨v, h1, h2⟩ := h
  exact ⟨v, (h2 ρ nx a w1 d type pos af g hs hw1).1, h1, fun w hw => (h2 ρ nx a w d type pos af g hs hw).2⟩

include hok in
theorem opQ_sound {o : Oper} {env : Env} {a : Act} {ρ : Nat → Loc} {nx : Nat} {H : Heap} {S : Asn} {K : SV → Prop} (hs : Sat cx.n ρ nx env a) {w1 : World} (hw1 : Abs cx.B ρ nx H S w1)
    (h : opQ cx o.op env H S K) : ∃ v, v.lt nx ∧ K v ∧ ∀ w, Abs cx.B ρ nx H S w → (execOp a.eval o).run cx.P w = .ok (.value (v.rf ρ)) w := by
  have hH : ∀ q ∈ H, q.2.lt nx := fun q hq => by obtain ⟨R, φ, hw1⟩ := hw1; exact (hw1.key q hq).2
  obtain ⟨dst, op, type, pos, after, guard⟩ := o
  cases op with
  | move x =>
    obtain ⟨v, h1, h2, h3⟩ := evK_spec hs h
    exact ⟨v, h3, h1, fun w _ => by simp [execOp, h2]⟩
  | assign x =>
    obtain ⟨v, h1, h2, h3⟩ := evK_spec hs h
    exact ⟨v, h3, h1, fun w _ => by simp [execOp, h2]⟩
  | pick c x y =>
    obtain ⟨v, h1, h2, h3⟩ := evK_spec hs h
    match v, h1, h2 with
    | .c (.bool true), h1, h2 =>
      obtain ⟨v, h4, h5, h6⟩ := evK_spec hs h1
      exact ⟨v, h6, h4, fun w _ => by simp [execOp, h2, h5, SV.rf, asBool]⟩
    | .c (.bool false), h1, h2 =>
      obtain ⟨v, h4, h5, h6⟩ := evK_spec hs h1
      exact ⟨v, h6, h4, fun w _ => by simp [execOp, h2, h5, SV.rf, asBool]⟩
  | load t x =>
    obtain ⟨p, h1, h2, h3⟩ := evK_spec hs h
    have := Gives.next (ρ := ρ) (nx := nx) (H := H) (S := S) (K := K) (loadQ_sound hok (ρ := ρ) (nx := nx) h1 hH)
    simpa only [execOp, h2] using this
  | fieldAddr t x f =>
    obtain ⟨p, h1, h2, h3⟩ := evK_spec hs h
    have := Gives.next (ρ := ρ) (nx := nx) (H := H) (S := S) (K := K) (fieldAddrH_sound hok (ρ := ρ) (S := S) h3 h1)
    simpa only [execOp, h2] using this
  | field t x f =>
    obtain ⟨p, h1, h2, h3⟩ := evK_spec hs h
    obtain ⟨v, h4, h5, h6⟩ := fieldQ_sound hok (ρ := ρ) h3 h1
    have := Gives.next (ρ := ρ) (nx := nx) (H := H) (S := S) (K := K) (⟨v, h4, h5, fun w _ => h6 w⟩)
    simpa only [execOp, h2] using this
  | indexAddr t x i =>
    obtain ⟨p, h1, h2, h3⟩ := evK_spec hs h
    obtain ⟨q, h4, h5, h6⟩ := evK_spec hs h1
    have := Gives.next (ρ := ρ) (nx := nx) (H := H) (S := S) (K := K) (idxQ_sound hok (ρ := ρ) (S := S) h4 h3)
    simpa only [execOp, h2, h5] using this
  | binOp op t x y yt =>
    obtain ⟨p, h1, h2, h3⟩ := evK_spec hs h
    obtain ⟨q, h4, h5, h6⟩ := evK_spec hs h1
    obtain ⟨v, h7, h8⟩ := binQ_sound hok h4 ρ
    have := Gives.next (ρ := ρ) (nx := nx) (H := H) (S := S) (K := K) (⟨.c v, SV.lt_c _, h8, fun w _ => h7 w⟩)
    simpa only [execOp, h2, h5] using this
  | unOp op t x =>
    obtain ⟨p, h1, h2, h3⟩ := evK_spec hs h
    obtain ⟨v, h7, h8⟩ := unQ_sound (P := cx.P) (ρ := ρ) h1
    have := Gives.next (ρ := ρ) (nx := nx) (H := H) (S := S) (K := K) (⟨.c v, SV.lt_c _, h7, fun w _ => h8 w⟩)
    simpa only [execOp, h2] using this
  | convert s d x =>
    obtain ⟨p, h1, h2, h3⟩ := evK_spec hs h
    have h9 : ∃ v, K (.c v) ∧ ∀ w, Abs cx.B ρ nx H S w → (convert s d (p.rf ρ)).run cx.P w = .ok v w := by
      unfold convH at h1
      split at h1
      · rw [strK_def] at h1
        obtain ⟨v, g1, g2⟩ := h1
        exact ⟨v, g1, fun w hw => g2 ρ nx w hw⟩
      · rw [strK_def] at h1
        obtain ⟨v, g1, g2⟩ := h1
        exact ⟨v, g1, fun w hw => g2 ρ nx w hw⟩
      · obtain ⟨v, g1, g2⟩ := convQ_sound hok (ρ := ρ) h1
        exact ⟨v, g1, fun w _ => g2 w⟩
    obtain ⟨v, h7, h8⟩ := h9
    have := Gives.next (ρ := ρ) (nx := nx) (H := H) (S := S) (K := K) (⟨.c v, SV.lt_c _, h7, h8⟩)
    simpa only [execOp, h2] using this
  | extract x i =>
    obtain ⟨p, h1, h2, h3⟩ := evK_spec hs h
    obtain ⟨v, h4, h5, h6⟩ := extrQ_sound (P := cx.P) (ρ := ρ) h3 h1
    have := Gives.next (ρ := ρ) (nx := nx) (H := H) (S := S) (K := K) (⟨v, h4, h5, fun w _ => h6 w⟩)
    simpa only [execOp, h2] using this
  | build t ps =>
    obtain ⟨l, h1, h2, h3⟩ := evpK_spec hs h
    obtain ⟨v, h4, h5, h6⟩ := buildQ_sound hok h3 h1
    have := Gives.next (ρ := ρ) (nx := nx) (H := H) (S := S) (K := K) (⟨v, h4, h5, fun w _ => h6 ρ w⟩)
    have e : (ps.map fun (i, x) => (i, a.eval x)) = (l.map fun p => (p.1, p.2.rf ρ)).toArray := by
      rw [← h2]; apply Array.ext'; simp
    simpa only [execOp, e] using this
  | makeInterface t x =>
    obtain ⟨p, h1, h2, h3⟩ := evK_spec hs h
    obtain ⟨h4, h5⟩ := ifaceQ_sound hok h1
    have := Gives.next (ρ := ρ) (nx := nx) (H := H) (S := S) (K := K) (⟨_, SV.lt_ifc.2 h3, h4, fun w _ => h5 ρ w⟩)
    simpa only [execOp, h2] using this
  | makeFunc fn x y =>
    obtain ⟨la, h1, h2, h3⟩ := evsK_spec hs h
    obtain ⟨lb, h4, h5, h6⟩ := evsK_spec hs h1
    refine ⟨_, SV.lt_fn.2 ⟨h3, h6⟩, h4, fun w _ => ?_⟩
    have e1 : x.map a.eval = (SV.rfs ρ la).toArray := by rw [← h2]; apply Array.ext'; simp
    have e2 : y.map a.eval = (SV.rfs ρ lb).toArray := by rw [← h5]; apply Array.ext'; simp
    simp [execOp, e1, e2, Instr.makeFunc, SV.rf]
  | nilCheck x =>
    obtain ⟨p, h1, h2, h3⟩ := evK_spec hs h
    match p, h1, h2, h3 with
    | .c (.pointer (some b)), h1, h2, h3 => exact ⟨_, SV.lt_c _, h1, fun w _ => by simp [execOp, h2, SV.rf]⟩
    | .lp i j k f, h1, h2, h3 =>
      simp only [nilQ] at h1
      obtain ⟨e, he, h1⟩ := findK_spec h1
      cases e with
      | box l T =>
        refine ⟨_, h3, h1, fun w hw => ?_⟩
        obtain ⟨b, hb⟩ := Option.isSome_iff_exists.1 (base_of_box hw he)
        simp [execOp, h2, SV.rf, hb]
      | rows xs k' T =>
        dsimp only at h1
        rw [ltK_def] at h1
        refine ⟨_, h3, h1.2, fun w hw => ?_⟩
        obtain ⟨b, hb⟩ := Option.isSome_iff_exists.1 (base_of_rows hw he h1.1)
        simp [execOp, h2, SV.rf, hb]
      | ext o => exact h1.elim
    | .fn (.func f) x y, h1, h2, h3 => exact ⟨_, h3, h1, fun w _ => by simp [execOp, h2, SV.rf]⟩
    | .c (.func (.func f) x y), h1, h2, h3 => exact ⟨_, h3, h1, fun w _ => by simp [execOp, h2, SV.rf]⟩
    | .ifc t v, h1, h2, h3 => exact ⟨_, h3, h1, fun w _ => by simp [execOp, h2, SV.rf]⟩
  | slice t x lo hi mx =>
    obtain ⟨p, h1, h2, h3⟩ := evK_spec hs h
    obtain ⟨l, h4, h5⟩ := optK_spec hs h1
    obtain ⟨m, h6, h7⟩ := optK_spec hs h4
    obtain ⟨n, h8, h9⟩ := optK_spec hs h6
    have := Gives.next (ρ := ρ) (nx := nx) (H := H) (S := S) (K := K) (sliceQ_sound hok (ρ := ρ) (S := S) h8 h3 h5 h7 h9)
    simpa only [execOp, h2] using this
  | call c =>
    simp only [opQ] at h
    cases hc : c.callee with
    | value f => rw [hc] at h; exact h.elim
    | invoke r m => rw [hc] at h; exact h.elim
    | builtin b =>
      rw [hc] at h
      obtain ⟨l, h1, h2, h3⟩ := evsK_spec hs h
      have e1 : c.args.map a.eval = (SV.rfs ρ l).toArray := by rw [← h2]; apply Array.ext'; simp
      obtain ⟨kc, hkc⟩ := builtin_run (P := cx.P) a.eval c b hc type
      have key : ∀ v w, (builtin b c.argTypes type kc (SV.rfs ρ l).toArray).run cx.P w = .ok (.value (SV.rf ρ v)) w →
          (execOp a.eval ⟨dst, .call c, type, pos, after, guard⟩).run cx.P w = .ok (.value (SV.rf ρ v)) w := by
        intro v w hv
        simp only [execOp]
        rw [hkc w, e1]; exact hv
      unfold builtinQ at h1
      split at h1
      · rename_i t ts x r hts
        have ht : c.argTypes[0]? = some t := by rw [← Array.getElem?_toList, hts]; rfl
        obtain ⟨v, h4, h5⟩ := lenQ_sound hok (ρ := ρ) (ty := type) (args := (SV.rfs ρ (x :: r)).toArray) ht (by simp [SV.rfs]) h1
        exact ⟨_, SV.lt_c _, h4, fun w _ => key (.c v) w (by simp [builtin, h5, SV.rf])⟩
      · rename_i k x r
        obtain ⟨v, h4, h5⟩ := max_sound (P := cx.P) (ρ := ρ) h1
        exact ⟨_, SV.lt_c _, h4, fun w _ => key (.c v) w (by simp [builtin, Builtin.max_, SV.rfs, SV.rf, h5])⟩
      · rename_i k x r
        obtain ⟨v, h4, h5⟩ := min_sound (P := cx.P) (ρ := ρ) h1
        exact ⟨_, SV.lt_c _, h4, fun w _ => key (.c v) w (by simp [builtin, Builtin.min_, SV.rfs, SV.rf, h5])⟩
      · exact h1.elim
  | _ => exact rawQ_sound hs hw1 h
end
end Go.SX
