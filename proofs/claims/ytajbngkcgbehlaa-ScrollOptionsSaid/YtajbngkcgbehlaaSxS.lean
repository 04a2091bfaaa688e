import Derived.Test.YtajbngkcgbehlaaSxR
import Derived.OrdersHeld
namespace Go.SX
open Go.RowKit

/-! ### Regions that draw their order -/
section
variable {P : Program} {ops : Array Oper} {Q : Exit → Act → World → Prop} {md : Region.Mode} {C : World → Prop} {brk : Nat → Bool}

/-- Whatever order is picked from here on; behind each operation that is no breaking one the class holds. -/
def wpAnyE (P : Program) (md : Region.Mode) (ops : Array Oper) (Q : Exit → Act → World → Prop) (C : World → Prop) (brk : Nat → Bool) : Nat → Array Bool → Act → World → Prop
  | 0, listed, a, w => Region.ready md ops listed = [] ∧ Q .normal a w
  | fuel + 1, listed, a, w =>
    (Region.ready md ops listed = [] → Q .normal a w) ∧
    ∀ i ∈ Region.ready md ops listed, wpOp P ops Q i (fun a' w' => (brk i = true ∨ C w') ∧ wpAnyE P md ops Q C brk fuel (listed.setIfInBounds i true) a' w') a w

theorem wpAny_of_E : ∀ (fuel : Nat) (listed : Array Bool) (a : Act) (w : World), wpAnyE P md ops Q C brk fuel listed a w → wpAny P md ops Q fuel listed a w
  | 0, _, _, _, h => h
  | fuel + 1, _, _, _, h => ⟨h.1, fun i hi => wpOp_mono (fun a' w' h' => wpAny_of_E fuel _ a' w' h'.2) (h.2 i hi)⟩

/-- A quiet operation may be taken first, if those that break the class wait for it. -/
theorem wpAnyE_first {i : Nat} {oi : Oper} {v : Value} (hi : ops[i]? = some oi) (hsel : ∀ (j : Nat) (o : Oper) cs b, ops[j]? = some o → o.op ≠ .select cs b)
    (hQ : ∀ c a w, Q (.panic c) (a.put oi.dst v) w → Q (.panic c) a w) (hbrk : ∀ j oj, ops[j]? = some oj → brk j = true → ∃ e ∈ oj.after, Region.binds md e = true ∧ e.on = i) :
    ∀ (fuel : Nat) (listed : Array Bool) (a : Act) (w : World),
      (∀ j oj, ops[j]? = some oj → j ≠ i → listed.getD j true = false → (∀ e ∈ oj.after, Region.binds md e = true → e.on ≠ i) → oi.apart ops oj = true) →
      i ∈ Region.ready md ops listed → YieldsIf P ops C oi v a → C w →
      wpAnyE P md ops Q C brk fuel (listed.setIfInBounds i true) (a.put oi.dst v) w → wpAnyE P md ops Q C brk (fuel + 1) listed a w := by
  intro fuel
  induction fuel with
  | zero =>
    intro listed a w _ hr hy hC H
    refine ⟨fun h => (by rw [h] at hr; cases hr), fun j hj => ?_⟩
    by_cases hji : j = i
    · subst hji; exact hy.wpOp hi hC ⟨.inr hC, H⟩
    · have := ready_mono hj hji
      rw [H.1] at this
      cases this
  | succ fuel ih =>
    intro listed a w hfree hr hy hC H
    refine ⟨fun h => (by rw [h] at hr; cases hr), fun j hj => ?_⟩
    by_cases hji : j = i
    · subst hji; exact hy.wpOp hi hC ⟨.inr hC, H⟩
    · obtain ⟨hjun, oj, hoj, hall⟩ := mem_ready.1 hj
      have hunl : listed.getD i true = false := (mem_ready.1 hr).1
      have hnot : ∀ e ∈ oj.after, Region.binds md e = true → e.on ≠ i := fun e he hb heq => by
        have h1 := hall e he hb
        rw [heq] at h1
        rcases Nat.lt_or_ge i listed.size with h' | h'
        · simp [h'] at hunl h1; rw [hunl] at h1; cases h1
        · simp [Array.getElem?_eq_none h'] at h1
      have hnb : brk j = false := by
        cases hb : brk j with
        | false => rfl
        | true =>
          obtain ⟨e, he, hb1, hb2⟩ := hbrk j oj hoj hb
          exact absurd hb2 (hnot e he hb1)
      have hap := hfree j oj hoj hji hjun hnot
      have hfree' : ∀ k ok, ops[k]? = some ok → k ≠ i → (listed.setIfInBounds j true).getD k true = false →
          (∀ e ∈ ok.after, Region.binds md e = true → e.on ≠ i) → oi.apart ops ok = true := fun k ok hk hki hun hno => by
        refine hfree k ok hk hki ?_ hno
        by_cases hjk : j = k
        · subst hjk; exact hjun
        · rw [getD_set_ne true hjk] at hun; exact hun
      have h1 := H.2 j (ready_mono hj hji)
      have h2 := wpOp_putIf hoj hap (fun cs b => hsel i oi cs b hi) (fun cs b => hsel j oj cs b hoj) hQ hy h1
      refine wpOp_mono (fun a' w' h3 => ?_) h2
      have hC' : C w' := h3.2.1.resolve_left (by simp [hnb])
      refine ⟨.inr hC', ih (listed.setIfInBounds j true) a' w' hfree' (ready_mono hr (Ne.symm hji)) h3.1 hC' ?_⟩
      rw [Array.setIfInBounds_comm _ _ hji]
      exact h3.2.2
end

/-- The orders that are looked at: take: a quiet operation first; one: the only one that may come up; alt: it comes up, or those behind do. -/
inductive DT where
  | done
  | take (i : Nat) (t : DT)
  | one (i : Nat) (t : DT)
  | alt (i : Nat) (t r : DT)

def DT.noTake : DT → Bool
  | .done => true
  | .take _ _ => false
  | .one _ t => t.noTake
  | .alt _ t r => t.noTake && r.noTake
def DT.picks : DT → List Nat
  | .one i _ => [i]
  | .alt i _ r => i :: r.picks
  | _ => []
def DT.deep : DT → Nat → Bool
  | .done, _ => true
  | .take _ t, n => (match n with | 0 => false | n + 1 => t.deep n)
  | .one _ t, n => (match n with | 0 => false | n + 1 => t.deep n)
  | .alt _ t r, n => (match n with | 0 => false | n' + 1 => t.deep n') && r.deep n
def memB (i : Nat) : List Nat → Bool
  | [] => false
  | j :: r => bif Nat.beq j i then true else memB i r
/-- Does it fit the region? -/
def waitsOn (ops : Array Oper) (j i : Nat) : Bool := match ops[j]? with | some oj => oj.after.any (fun e => Region.binds .any e && e.on == i) | none => true
def DT.ok (ops : Array Oper) (brk : List Nat) : DT → Array Bool → Bool → Bool
  | .done, listed, top => top && (Region.ready .any ops listed).isEmpty
  | .take i t, listed, top => top && (Region.free .any ops listed i && (Region.ready .any ops listed).contains i && (brk.all fun j => waitsOn ops j i) && t.ok ops brk (listed.setIfInBounds i true) true)
  | .one i t, listed, top => (!top || Region.ready .any ops listed == [i]) && (t.ok ops brk (listed.setIfInBounds i true) true && (bif memB i brk then t.noTake else true))
  | .alt i t r, listed, top => (!top || Region.ready .any ops listed == i :: r.picks) && (t.ok ops brk (listed.setIfInBounds i true) true && (bif memB i brk then t.noTake else true)) && r.ok ops brk listed false

/-- the number of an operation -/
def nthOp (K : Oper → Prop) : List Oper → Nat → Prop
  | [], _ => False
  | o :: r, n => bif Nat.beq n 0 then K o else nthOp K r (Nat.pred n)
theorem nthOp_spec {K : Oper → Prop} : ∀ {l : List Oper} {n : Nat}, nthOp K l n → ∃ o, l[n]? = some o ∧ K o
  | [], _, h => h.elim
  | o :: r, n, h => by
    unfold nthOp at h
    cases n with
    | zero => exact ⟨o, rfl, h⟩
    | succ n => obtain ⟨u, h1, h2⟩ := nthOp_spec (l := r) (n := n) h; exact ⟨u, by simpa using h1, h2⟩
/-- behind an operation that is no breaking one the region's own class holds -/
structure keepK (Hq : Heap) (S0 : Asn) (H : Heap) (S : Asn) (K : Prop) : Prop where
  out : (Hq.Sublist H ∧ ∀ R w, S.holds R w → S0.holds R w) ∧ K
theorem keepK_def {Hq : Heap} {S0 : Asn} {H : Heap} {S : Asn} {K : Prop} : keepK Hq S0 H S K = ((Hq.Sublist H ∧ ∀ R w, S.holds R w → S0.holds R w) ∧ K) := propext ⟨fun h => h.out, fun h => ⟨h⟩⟩
theorem keep_of {Hq : Heap} {S0 : Asn} {H : Heap} {S : Asn} {K : Prop} (h1 : Hq.Sublist H) (h2 : ∀ R w, S.holds R w → S0.holds R w) (h : K) : keepK Hq S0 H S K := by rw [keepK_def]; exact ⟨⟨h1, h2⟩, h⟩

/-- one that is picked -/
def pickW (cx : Cx) (ops : List Oper) (brk : List Nat) (Hq : Heap) (S0 : Asn) (i : Nat) (D : Env → Heap → Asn → Nat → Prop) (env : Env) (H : Heap) (S : Asn) (nx : Nat) : Prop :=
  nthOp (fun o => guardK cx.n ops o.guard env (fun b => match b with
      | true => opE cx o.op env H S nx (fun v H' S' nx' => putEK env o.dst v fun env' => bif memB i brk then D env' H' S' nx' else keepK Hq S0 H' S' (D env' H' S' nx'))
      | false => putEK env o.dst (.c undef) fun env' => bif memB i brk then D env' H S nx else keepK Hq S0 H S (D env' H S nx))) ops i
def drawW (cx : Cx) (ops : List Oper) (brk : List Nat) (Hq : Heap) (S0 : Asn) (K : Env → Heap → Asn → Nat → Prop) : DT → Env → Heap → Asn → Nat → Prop
  | .done, env, H, S, nx => K env H S nx
  | .take i t, env, H, S, nx => nthOp (fun o => guardK cx.n ops o.guard env (fun b => match b with
      | true => opQ cx o.op env Hq S0 (fun v => putEK env o.dst v fun env' => drawW cx ops brk Hq S0 K t env' H S nx)
      | false => putEK env o.dst (.c undef) fun env' => drawW cx ops brk Hq S0 K t env' H S nx)) ops i
  | .one i t, env, H, S, nx => pickW cx ops brk Hq S0 i (drawW cx ops brk Hq S0 K t) env H S nx
  | .alt i t r, env, H, S, nx => pickW cx ops brk Hq S0 i (drawW cx ops brk Hq S0 K t) env H S nx ∧ drawW cx ops brk Hq S0 K r env H S nx

theorem Abs.lift {B : Base} {ρ0 ρ : Nat → Loc} {nx0 nx : Nat} {H : Heap} {S : Asn} {w : World} (h : Abs B ρ0 nx0 H S w) (hr : ∀ i, i < nx0 → ρ i = ρ0 i) (hn : nx0 ≤ nx) : Abs B ρ nx H S w := by
  obtain ⟨R, φ, h⟩ := h
  refine ⟨R, φ, h.os, h.tape, h.output, h.size, fun p hp => ⟨Nat.lt_of_lt_of_le (h.pin p hp).1 hn, (hr _ (h.pin p hp).1).trans (h.pin p hp).2⟩, h.ro, h.asn, fun p hp => ⟨Nat.lt_of_lt_of_le (h.key p hp).1 hn, (h.key p hp).2.mono hn⟩, fun p hp => ?_, h.apart, h.sep⟩
  rw [hr _ (h.key p hp).1]
  exact Ent.holds_congr (fun i hi => (hr i ((h.key p hp).2 i hi)).symm) (h.ent p hp)
theorem Abs.lower {B : Base} {ρ0 ρ : Nat → Loc} {nx0 nx : Nat} {H : Heap} {S : Asn} {w : World} (h : Abs B ρ nx H S w) (hr : ∀ i, i < nx0 → ρ i = ρ0 i) (hk : ∀ p ∈ H, p.1 < nx0 ∧ p.2.lt nx0) (hp : ∀ p ∈ B.pin, p.1 < nx0) : Abs B ρ0 nx0 H S w := by
  obtain ⟨R, φ, h⟩ := h
  refine ⟨R, φ, h.os, h.tape, h.output, h.size, fun p hp' => ⟨hp p hp', (hr _ (hp p hp')).symm.trans (h.pin p hp').2⟩, h.ro, h.asn, hk, fun p hp' => ?_, h.apart, h.sep⟩
  rw [← hr _ (hk p hp').1]
  exact Ent.holds_congr (fun i hi => hr i ((hk p hp').2 i hi)) (h.ent p hp')

theorem Abs.sub {B : Base} {ρ : Nat → Loc} {nx : Nat} {H H2 : Heap} {S S2 : Asn} {w : World} (h : Abs B ρ nx H S w) (hH : H2.Sublist H) (hS : ∀ R w, S.holds R w → S2.holds R w) : Abs B ρ nx H2 S2 w := by
  obtain ⟨R, φ, hw⟩ := h
  have hw := hw.drop hH
  exact ⟨R, φ, ⟨hw.os, hw.tape, hw.output, hw.size, hw.pin, hw.ro, hS R w hw.asn, hw.key, hw.ent, hw.apart, hw.sep⟩⟩

section
variable {cx : Cx} (hok : ∀ p ∈ cx.tab, mkTI cx.P p.1 = some p.2) {ops : Array Oper} {brk : List Nat} {Hq : Heap} {S0 : Asn} {K : Env → Heap → Asn → Nat → Prop} {ρ0 : Nat → Loc} {nx0 : Nat} {Q : Exit → Act → World → Prop}
  (hsel : Region.noSelect ops = true) (hQ : ∀ c a a' w, Q (.panic c) a w → Q (.panic c) a' w) (hk : ∀ p ∈ Hq, p.1 < nx0 ∧ p.2.lt nx0) (hpin : ∀ p ∈ cx.B.pin, p.1 < nx0)
  (hfin : ∀ ρ' a' env' H' S' nx' w', (∀ i, i < nx0 → ρ' i = ρ0 i) → nx0 ≤ nx' → Sat cx.n ρ' nx' env' a' → Abs cx.B ρ' nx' H' S' w' → K env' H' S' nx' → Q .normal a' w')

include hok hk hpin in
/-- one that is picked: by what comes behind it -/
theorem pick_sound {i : Nat} {t : DT} {D : Env → Heap → Asn → Nat → Prop} {env : Env} {H : Heap} {S : Asn} {nx : Nat} {ρ : Nat → Loc} {a : Act} {w : World} {listed : Array Bool} {fuel : Nat}
    (h : pickW cx ops.toList brk Hq S0 i D env H S nx) (hnt : (bif memB i brk then t.noTake else true) = true) (hC : t.noTake = true ∨ Abs cx.B ρ0 nx0 Hq S0 w) (hs : Sat cx.n ρ nx env a) (hw : Abs cx.B ρ nx H S w) (hr : ∀ i, i < nx0 → ρ i = ρ0 i) (hn : nx0 ≤ nx)
    (ih : ∀ {env : Env} {H : Heap} {S : Asn} {nx : Nat} {ρ : Nat → Loc} {a : Act} {w : World}, D env H S nx → (t.noTake = true ∨ Abs cx.B ρ0 nx0 Hq S0 w) → Sat cx.n ρ nx env a → Abs cx.B ρ nx H S w → (∀ i, i < nx0 → ρ i = ρ0 i) → nx0 ≤ nx →
      wpAnyE cx.P .any ops Q (fun w => Abs cx.B ρ0 nx0 Hq S0 w) (fun i => memB i brk) fuel (listed.setIfInBounds i true) a w) :
    wpOp cx.P ops Q i (fun a' w' => (memB i brk = true ∨ Abs cx.B ρ0 nx0 Hq S0 w') ∧ wpAnyE cx.P .any ops Q (fun w => Abs cx.B ρ0 nx0 Hq S0 w) (fun i => memB i brk) fuel (listed.setIfInBounds i true) a' w') a w := by
  unfold pickW at h
  obtain ⟨o, ho, hh⟩ := nthOp_spec h
  rw [Array.getElem?_toList] at ho
  have hh := guardK_spec hs hh
  unfold wpOp
  rw [ho]
  dsimp only
  cases hwt : Region.wanted o (yielded ops a.tmps) with
  | true =>
    rw [hwt] at hh
    dsimp only at hh
    rw [if_pos rfl]
    refine .inl (opE_sound hok hh hs hw ?_)
    intro v ρ' H' S' nx' w' h1 h2 h3 h4 h5
    rw [putEK_eq] at h5
    have hr' : ∀ j, j < nx0 → ρ' j = ρ0 j := fun j hj => (h1 j (Nat.lt_of_lt_of_le hj hn)).trans (hr j hj)
    cases hb : memB i brk with
    | true =>
      rw [hb, cond_true] at h5
      rw [hb, cond_true] at hnt
      exact ⟨.inl rfl, ih h5 (.inl hnt) (hs.put h1 h2 h3) h4 hr' (Nat.le_trans hn h2)⟩
    | false =>
      rw [hb, cond_false] at h5
      rw [keepK_def] at h5
      have hc : Abs cx.B ρ0 nx0 Hq S0 w' := (h4.sub h5.1.1 h5.1.2).lower hr' hk hpin
      exact ⟨.inr hc, ih h5.2 (.inr hc) (hs.put h1 h2 h3) h4 hr' (Nat.le_trans hn h2)⟩
  | false =>
    rw [hwt] at hh
    dsimp only at hh
    rw [if_neg (by simp)]
    have hp := hs.put (ρ' := ρ) (nx' := nx) (d := o.dst) (v := .c undef) (fun _ _ => rfl) (Nat.le_refl _) (SV.lt_c _)
    rw [putEK_eq] at hh
    cases hb : memB i brk with
    | true =>
      rw [hb, cond_true] at hh
      rw [hb, cond_true] at hnt
      exact ⟨.inl rfl, ih hh (.inl hnt) hp hw hr hn⟩
    | false =>
      rw [hb, cond_false] at hh
      rw [keepK_def] at hh
      have hc : Abs cx.B ρ0 nx0 Hq S0 w := (hw.sub hh.1.1 hh.1.2).lower hr hk hpin
      exact ⟨.inr hc, ih hh.2 (.inr hc) hp hw hr hn⟩

/-- what is shown of a tree: from its top, or of each that it picks -/
def Shown (cx : Cx) (ops : Array Oper) (brk : List Nat) (Hq : Heap) (S0 : Asn) (ρ0 : Nat → Loc) (nx0 : Nat) (Q : Exit → Act → World → Prop) (t : DT) (listed : Array Bool) (fuel : Nat) (a : Act) (w : World) : Bool → Prop
  | true => wpAnyE cx.P .any ops Q (fun w => Abs cx.B ρ0 nx0 Hq S0 w) (fun i => memB i brk) fuel listed a w
  | false => ∃ n, fuel = n + 1 ∧ ∀ i ∈ t.picks, wpOp cx.P ops Q i (fun a' w' => (memB i brk = true ∨ Abs cx.B ρ0 nx0 Hq S0 w') ∧ wpAnyE cx.P .any ops Q (fun w => Abs cx.B ρ0 nx0 Hq S0 w) (fun i => memB i brk) n (listed.setIfInBounds i true) a' w') a w
theorem Shown.top {t : DT} {listed : Array Bool} {fuel : Nat} {a : Act} {w : World} {top : Bool} (hp : top = true → Region.ready .any ops listed = t.picks ∧ t.picks ≠ [])
    (h : Shown cx ops brk Hq S0 ρ0 nx0 Q t listed fuel a w false) : Shown cx ops brk Hq S0 ρ0 nx0 Q t listed fuel a w top := by
  cases top with
  | false => exact h
  | true =>
    obtain ⟨h1, h2⟩ := hp rfl
    obtain ⟨n, rfl, h⟩ := h
    refine ⟨fun h0 => absurd (h1.symm.trans h0) h2, ?_⟩
    rw [h1]
    exact h

include hok hsel hQ hk hpin hfin in
theorem drawW_sound : ∀ {t : DT} {env : Env} {H : Heap} {S : Asn} {nx : Nat} {ρ : Nat → Loc} {a : Act} {w : World} {listed : Array Bool} {fuel : Nat} {top : Bool},
    drawW cx ops.toList brk Hq S0 K t env H S nx → t.ok ops brk listed top = true → t.deep fuel = true → (t.noTake = true ∨ Abs cx.B ρ0 nx0 Hq S0 w) → Sat cx.n ρ nx env a → Abs cx.B ρ nx H S w → (∀ i, i < nx0 → ρ i = ρ0 i) → nx0 ≤ nx →
    Shown cx ops brk Hq S0 ρ0 nx0 Q t listed fuel a w top
  | .done, env, H, S, nx, ρ, a, w, listed, fuel, top, h, hok', _, _, hs, hw, hr, hn => by
    simp only [DT.ok, List.isEmpty_iff, Bool.and_eq_true] at hok'
    obtain ⟨rfl, hok'⟩ := hok'
    have hq := hfin ρ a env H S nx w hr hn hs hw h
    cases fuel with
    | zero => exact ⟨hok', hq⟩
    | succ fuel => exact ⟨fun _ => hq, by rw [hok']; simp⟩
  | .take i t, env, H, S, nx, ρ, a, w, listed, fuel, top, h, hok', hd, hC, hs, hw, hr, hn => by
    have hC := hC.resolve_left (by simp [DT.noTake])
    simp only [DT.ok, Bool.and_eq_true, List.all_eq_true] at hok'
    obtain ⟨rfl, ⟨⟨hf, hrd⟩, hb⟩, hok'⟩ := hok'
    cases fuel with
    | zero => simp [DT.deep] at hd
    | succ fuel =>
    simp only [DT.deep] at hd
    unfold drawW at h
    obtain ⟨o, ho, h⟩ := nthOp_spec h
    rw [Array.getElem?_toList] at ho
    have h := guardK_spec hs h
    have hbrk : ∀ j oj, ops[j]? = some oj → memB j brk = true → ∃ e ∈ oj.after, Region.binds .any e = true ∧ e.on = i := by
      intro j oj hoj hj
      have hmem : ∀ {l : List Nat}, memB j l = true → j ∈ l := by
        intro l
        induction l with
        | nil => intro h; simp [memB] at h
        | cons x r ih =>
          intro h
          unfold memB at h
          cases hx : Nat.beq x j with
          | true => have := Nat.eq_of_beq_eq_true hx; subst this; simp
          | false => rw [hx] at h; exact List.mem_cons_of_mem _ (ih h)
      have := hb j (hmem hj)
      unfold waitsOn at this
      rw [hoj] at this
      obtain ⟨e, he, hb'⟩ := Array.any_eq_true'.1 this
      simp only [Bool.and_eq_true, beq_iff_eq] at hb'
      exact ⟨e, he, hb'.1, hb'.2⟩
    have go : ∀ v : SV, v.lt nx → YieldsIf cx.P ops (fun w => Abs cx.B ρ0 nx0 Hq S0 w) o (v.rf ρ) a → drawW cx ops.toList brk Hq S0 K t (putE env o.dst v) H S nx →
        wpAnyE cx.P .any ops Q (fun w => Abs cx.B ρ0 nx0 Hq S0 w) (fun i => memB i brk) (fuel + 1) listed a w := by
      intro v hv hy h
      exact wpAnyE_first ho (Region.noSelect_spec hsel) (fun c a w hq => hQ c _ _ w hq) hbrk fuel listed a w (Region.free_spec ho hf) (by simpa using hrd) hy hC
        (drawW_sound (top := true) h hok' hd (.inr hC) (hs.put (fun _ _ => rfl) (Nat.le_refl _) hv) hw hr hn)
    cases hwt : Region.wanted o (yielded ops a.tmps) with
    | true =>
      rw [hwt] at h
      dsimp only at h
      obtain ⟨v, h1, h2, h3⟩ := opQ_sound hok hs (hC.lift hr hn) h
      rw [putEK_eq] at h2
      exact go v h1 (.inl ⟨hwt, fun w' hw' => h3 w' (hw'.lift hr hn)⟩) h2
    | false =>
      rw [hwt] at h
      dsimp only at h
      rw [putEK_eq] at h
      exact go (.c undef) (SV.lt_c _) (.inr ⟨hwt, rfl⟩) h
  | .one i t, env, H, S, nx, ρ, a, w, listed, fuel, top, h, hok', hd, hC, hs, hw, hr, hn => by
    simp only [DT.ok, Bool.and_eq_true, Bool.or_eq_true, Bool.not_eq_true', beq_iff_eq] at hok'
    obtain ⟨hrd, hok1, hnt⟩ := hok'
    cases fuel with
    | zero => simp [DT.deep] at hd
    | succ fuel =>
    simp only [DT.deep] at hd
    unfold drawW at h
    refine Shown.top (fun ht => ⟨hrd.resolve_left (by simp [ht]), by simp [DT.picks]⟩) ⟨fuel, rfl, fun i' hi' => ?_⟩
    obtain rfl : i' = i := by simpa [DT.picks] using hi'
    exact pick_sound hok hk hpin h hnt (by simpa only [DT.noTake] using hC) hs hw hr hn fun g1 g2 g3 g4 g5 g6 => drawW_sound (top := true) g1 hok1 hd g2 g3 g4 g5 g6
  | .alt i t r, env, H, S, nx, ρ, a, w, listed, fuel, top, h, hok', hd, hC, hs, hw, hr, hn => by
    simp only [DT.ok, Bool.and_eq_true, Bool.or_eq_true, Bool.not_eq_true', beq_iff_eq] at hok'
    obtain ⟨⟨hrd, hok1, hnt⟩, hok2⟩ := hok'
    cases fuel with
    | zero => simp [DT.deep] at hd
    | succ fuel =>
    simp only [DT.deep, Bool.and_eq_true] at hd
    unfold drawW at h
    have hC1 : t.noTake = true ∨ Abs cx.B ρ0 nx0 Hq S0 w := hC.elim (fun g => by simp only [DT.noTake, Bool.and_eq_true] at g; exact .inl g.1) .inr
    have hC2 : r.noTake = true ∨ Abs cx.B ρ0 nx0 Hq S0 w := hC.elim (fun g => by simp only [DT.noTake, Bool.and_eq_true] at g; exact .inl g.2) .inr
    refine Shown.top (fun ht => ⟨hrd.resolve_left (by simp [ht]), by simp [DT.picks]⟩) ⟨fuel, rfl, fun i' hi' => ?_⟩
    simp only [DT.picks, List.mem_cons] at hi'
    rcases hi' with rfl | hi'
    · exact pick_sound hok hk hpin h.1 hnt hC1 hs hw hr hn fun g1 g2 g3 g4 g5 g6 => drawW_sound (top := true) g1 hok1 hd.1 g2 g3 g4 g5 g6
    · obtain ⟨n, e, hh⟩ := drawW_sound (top := false) h.2 hok2 hd.2 hC2 hs hw hr hn
      obtain rfl : fuel = n := by omega
      exact hh i' hi'
end

/-- A REGION THAT DRAWS, BY THE ORDERS OF A TREE. Hq: the entries that it reads. -/
theorem draw_tree {cx : Cx} (hok : ∀ p ∈ cx.tab, mkTI cx.P p.1 = some p.2) (hm : cx.P.follows .mixedOrders = true) {id : Nat} {ops : Array Oper} {env : Env} {H : Heap} {S : Asn} {nx : Nat} {K : Env → Heap → Asn → Nat → Prop} (brk : List Nat) (Hq : Heap) (t : DT)
    (hsel : Region.noSelect ops = true) (ht : t.ok ops brk (Array.replicate ops.size false) true = true) (hd : t.deep ops.size = true) (hH : Hq.Sublist H) (h : drawW cx ops.toList brk Hq S K t env H S nx) : drawK cx id ops env H S nx K := by
  rw [drawK_def, Wp_def]
  intro ρ a w hs hw
  refine wp_region_any hm (wpAny_of_E (C := fun w => Abs cx.B ρ nx Hq S w) (brk := fun i => memB i brk) _ _ _ _ ?_)
  have hw' := hw.drew
  have hkeys : (∀ p ∈ Hq, p.1 < nx ∧ p.2.lt nx) ∧ ∀ p ∈ cx.B.pin, p.1 < nx := by
    obtain ⟨R, φ, hw⟩ := hw
    exact ⟨fun p hp => hw.key p (hH.subset hp), fun p hp => (hw.pin p hp).1⟩
  refine drawW_sound (top := true) (ρ0 := ρ) (nx0 := nx) hok hsel ?_ hkeys.1 hkeys.2 ?_ h ht hd (.inr (hw'.sub hH (fun _ _ h => h))) hs hw' (fun _ _ => rfl) (Nat.le_refl _)
  · rintro c a a' w ⟨ρ', env', H', S', nx', _, _, _, _, h6, _⟩
    cases h6
  · intro ρ' a' env' H' S' nx' w' h1 h2 h3 h4 h5
    exact ⟨ρ', env', H', S', nx', h1, h2, h3, h4, rfl, h5⟩

/-! ### A region that draws and only reads, with calls that make memory at the most -/
structure callQ (cx : Cx) (f : FuncId) (args : List SV) (H : Heap) (S : Asn) (nx : Nat) (K : SV → Prop) : Prop where
  out : (∀ as w, (callFunc f as).run cx.P w = .ok (.enter f as) w) ∧
  ∃ val : Value, (∀ ρ w, Abs cx.B ρ nx H S w → Calls cx.P f (SV.rfs ρ args).toArray w (fun e w' => e = .returned val ∧ Ext w w')) ∧ K (.c val)
theorem callQ_def {cx : Cx} {f : FuncId} {args : List SV} {H : Heap} {S : Asn} {nx : Nat} {K : SV → Prop} : callQ cx f args H S nx K = ((∀ as w, (callFunc f as).run cx.P w = .ok (.enter f as) w) ∧
  ∃ val : Value, (∀ ρ w, Abs cx.B ρ nx H S w → Calls cx.P f (SV.rfs ρ args).toArray w (fun e w' => e = .returned val ∧ Ext w w')) ∧ K (.c val)) := propext ⟨fun h => h.out, fun h => ⟨h⟩⟩
theorem callQ_of {cx : Cx} {f : FuncId} {args : List SV} {H : Heap} {S : Asn} {nx : Nat} {K : SV → Prop} (hf : ∀ as w, (callFunc f as).run cx.P w = .ok (.enter f as) w) (val : Value)
    (hc : ∀ ρ w, Abs cx.B ρ nx H S w → Calls cx.P f (SV.rfs ρ args).toArray w (fun e w' => e = .returned val ∧ Ext w w')) (h : K (.c val)) : callQ cx f args H S nx K := by
  rw [callQ_def]; exact ⟨hf, val, hc, h⟩
def callVQ (cx : Cx) (fv : SV) (args : List SV) (H : Heap) (S : Asn) (nx : Nat) (K : SV → Prop) : Prop :=
  match fv with
  | .c (.func (.func f) a b) => (match a.toList, b.toList with
    | [], [] => callQ cx f args H S nx K
    | x, y => callQ cx f (cs x ++ args ++ cs y) H S nx K)
  | .fn (.func f) a b => callQ cx f (a ++ args ++ b) H S nx K
  | _ => False
def calleeOf : Op → Option (Operand × List Operand)
  | .call c => (match c.callee with | .value f => some (f, c.args.toList) | _ => none)
  | _ => none
def regQ (cx : Cx) (ops : List Oper) (H : Heap) (S : Asn) (nx : Nat) (K : Env → Prop) : List Oper → Env → Prop
  | [], env => K env
  | o :: r, env => guardK cx.n ops o.guard env (fun b => match b with
    | true => (match calleeOf o.op with
      | some (f, as) => evK cx.n env f fun fv => evsK cx.n env (fun l => callVQ cx fv l H S nx (fun v => putEK env o.dst v (regQ cx ops H S nx K r))) as
      | none => opQ cx o.op env H S (fun v => putEK env o.dst v (regQ cx ops H S nx K r)))
    | false => putEK env o.dst (.c undef) (regQ cx ops H S nx K r))

section
variable {cx : Cx} (hok : ∀ p ∈ cx.tab, mkTI cx.P p.1 = some p.2)
include hok in
theorem regQ_sound {ops : Array Oper} {ρ : Nat → Loc} {H : Heap} {S : Asn} {nx : Nat} {K : Env → Prop} {w0 : World} (hw0 : Abs cx.B ρ nx H S w0) : ∀ {l : List Oper} {env : Env} {a : Act} {Q : Act → Prop},
    regQ cx ops.toList H S nx K l env → Sat cx.n ρ nx env a → (∀ env' a', Sat cx.n ρ nx env' a' → K env' → Q a') → wpQuiet cx.P ops (fun w => Abs cx.B ρ nx H S w) Q l a
  | [], env, a, Q, h, hs, hq => hq env a hs h
  | o :: r, env, a, Q, h, hs, hq => by
    unfold regQ at h
    have h := guardK_spec hs h
    unfold wpQuiet
    have rest : ∀ v : SV, v.lt nx → regQ cx ops.toList H S nx K r (putE env o.dst v) → wpQuiet cx.P ops (fun w => Abs cx.B ρ nx H S w) Q r (a.put o.dst (v.rf ρ)) := fun v hv h =>
      regQ_sound hw0 h (hs.put (fun _ _ => rfl) (Nat.le_refl _) hv) hq
    cases hwt : Region.wanted o (yielded ops a.tmps) with
    | false =>
      rw [hwt] at h
      rw [if_neg (by simp)]
      rw [putEK_eq] at h
      exact rest (.c undef) (SV.lt_c _) h
    | true =>
      rw [hwt] at h
      dsimp only at h
      rw [if_pos rfl]
      cases hc : calleeOf o.op with
      | none =>
        rw [hc] at h
        dsimp only at h
        obtain ⟨v, h1, h2, h3⟩ := opQ_sound hok hs hw0 h
        rw [putEK_eq] at h2
        refine ⟨v.rf ρ, fun w hw => ?_, rest v h1 h2⟩
        unfold Oper.quietAt
        rw [h3 w hw]
        exact ⟨rfl, rfl⟩
      | some x =>
        obtain ⟨f, as⟩ := x
        rw [hc] at h
        dsimp only at h
        obtain ⟨dst, op, type, pos, after, guard⟩ := o
        cases op with
        | call c =>
          simp only [calleeOf] at hc
          cases hcc : c.callee with
          | value f' =>
            rw [hcc] at hc
            obtain ⟨rfl, rfl⟩ : f' = f ∧ c.args.toList = as := by simpa using hc
            obtain ⟨fv, h1, h2, h3⟩ := evK_spec hs h
            obtain ⟨l, h4, h5, h6⟩ := evsK_spec hs h1
            have e1 : c.args.map a.eval = (SV.rfs ρ l).toArray := by rw [← h5]; apply Array.ext'; simp
            have run : ∀ (g : FuncId) (x y : Array Value), a.eval f' = .func (.func g) x y → ∀ w, (execOp a.eval ⟨dst, .call c, type, pos, after, guard⟩).run cx.P w = (callFunc g (x ++ (SV.rfs ρ l).toArray ++ y)).run cx.P w := by
              intro g x y hf w
              simp only [execOp, resolve, hcc, e1, hf, Deferred.ofValue, Sem.run_bind, Sem.run_pure, Result.andThen_ok, invoke]
            have fin : ∀ (g : FuncId) (x y : Array Value) (args : List SV), a.eval f' = .func (.func g) x y → x ++ (SV.rfs ρ l).toArray ++ y = (SV.rfs ρ args).toArray →
                callQ cx g args H S nx (fun v => putEK env dst v (regQ cx ops.toList H S nx K r)) → Oper.quiet cx.P ⟨dst, .call c, type, pos, after, guard⟩ a (fun w => Abs cx.B ρ nx H S w) (wpQuiet cx.P ops (fun w => Abs cx.B ρ nx H S w) Q r) := by
              intro g x y args hf ha hq'
              rw [callQ_def] at hq'
              obtain ⟨g1, val, g2, g3⟩ := hq'
              rw [putEK_eq] at g3
              refine ⟨val, fun w hw => ?_, rest (.c val) (SV.lt_c _) g3⟩
              unfold Oper.quietAt
              rw [run g x y hf w, g1]
              refine ⟨rfl, ?_⟩
              rw [ha]
              exact (g2 ρ w hw).mono fun e w'' he => ⟨he.1, hw.ext he.2⟩
            unfold callVQ at h4
            split at h4
            · rename_i g x y
              split at h4
              · rename_i hx hy
                have hx' : x = #[] := by cases x; simpa using hx
                have hy' : y = #[] := by cases y; simpa using hy
                exact fin g x y _ (by rw [h2]; rfl) (by subst hx'; subst hy'; simp) h4
              · exact fin g x y _ (by rw [h2]; rfl) (by rw [rfs_append, rfs_append, rfs_cs, rfs_cs]; apply Array.ext'; simp) h4
            · rename_i g x y
              exact fin g _ _ _ (by rw [h2]; rfl) (by rw [rfs_append, rfs_append]; apply Array.ext'; simp) h4
            · exact h4.elim
          | invoke r m => rw [hcc] at hc; cases hc
          | builtin b => rw [hcc] at hc; cases hc
        | _ => cases hc
end

/-- A region that draws and only reads. -/
theorem draw_quiet {cx : Cx} (hok : ∀ p ∈ cx.tab, mkTI cx.P p.1 = some p.2) (hm : cx.P.follows .mixedOrders = true) {id : Nat} {ops : Array Oper} {env : Env} {H : Heap} {S : Asn} {nx : Nat} {K : Env → Heap → Asn → Nat → Prop}
    (hB : Region.lexB .any ops = true) (h : regQ cx ops.toList H S nx (fun env' => K env' H S nx) ops.toList env) : drawK cx id ops env H S nx K := by
  rw [drawK_def, Wp_def]
  intro ρ a w hs hw
  refine wp_region_quiet (C := fun w => Abs cx.B ρ nx H S w) hm hB hw.drew ?_
  refine regQ_sound hok hw h hs ?_
  intro env' a' hs' hk w' hw'
  exact ⟨ρ, env', H, S, nx, fun _ _ => rfl, Nat.le_refl _, hs', hw', rfl, hk⟩
end Go.SX
