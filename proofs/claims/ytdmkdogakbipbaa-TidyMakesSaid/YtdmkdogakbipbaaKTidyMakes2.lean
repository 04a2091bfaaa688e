import Derived.OrdersHeld
import Derived.ProofKit
import Derived.OpenShut
import Derived.Deep.Slices
import Derived.LoopN
import Derived.Laws.BytesString
import Derived.Laws.Cells
import Derived.Test.YtdmkdogakbipbaaKTidyMakes1
/- SxS -/
namespace Go.SX
open Go.RowKit

section
variable {P : Program} {ops : Array Oper} {Q : Exit → Act → World → Prop} {md : Region.Mode} {C : World → Prop} {brk : Nat → Bool}

/-- Whatever order is picked from here on; behind each operation that is no breaking one the class holds. -/
def wpAnyE (P : Program) (md : Region.Mode) (ops : Array Oper) (Q : Exit → Act → World → Prop) (C : World → Prop) (brk : Nat → Bool) : Nat → Array Bool → Act → World → Prop
  | 0, listed, a, w => Region.ready md ops listed = [] ∧ Q .normal a w
  | fuel + 1, listed, a, w =>
    (Region.ready md ops listed = [] → Q .normal a w) ∧
    ∀ i ∈ Region.ready md ops listed, wpOp P ops Q i (fun a' w' => (brk i = true ∨ C w') ∧ wpAnyE P md ops Q C brk fuel (listed.setIfInBounds i true) a' w') a w

theorem wpAny_of_E : ∀ (fuel : Nat) (listed : Array Bool) (a : Act) (w : World), wpAnyE P md ops Q C brk fuel listed a w → wpAny P md ops Q fuel listed a w
  | 0, _, _, _, h => h
  | fuel + 1, _, _, _, h => ⟨h.1, fun i hi => wpOp_mono (fun a' w' h' => wpAny_of_E fuel _ a' w' h'.2) (h.2 i hi)⟩

/-- A quiet operation may be taken first, if those that break the class wait for it. -/
theorem wpAnyE_first {i : Nat} {oi : Oper} {v : Value} (hi : ops[i]? = some oi) (hsel : ∀ (j : Nat) (o : Oper) cs b, ops[j]? = some o → o.op ≠ .select cs b)
    (hQ : ∀ c a w, Q (.panic c) (a.put oi.dst v) w → Q (.panic c) a w) (hbrk : ∀ j oj, ops[j]? = some oj → brk j = true → ∃ e ∈ oj.after, Region.binds md e = true ∧ e.on = i) :
    ∀ (fuel : Nat) (listed : Array Bool) (a : Act) (w : World),
      (∀ j oj, ops[j]? = some oj → j ≠ i → listed.getD j true = false → (∀ e ∈ oj.after, Region.binds md e = true → e.on ≠ i) → oi.apart ops oj = true) →
      i ∈ Region.ready md ops listed → YieldsIf P ops C oi v a → C w →
      wpAnyE P md ops Q C brk fuel (listed.setIfInBounds i true) (a.put oi.dst v) w → wpAnyE P md ops Q C brk (fuel + 1) listed a w := by
  intro fuel
  induction fuel with
  | zero =>
    intro listed a w _ hr hy hC H
    refine ⟨fun h => (by rw [h] at hr; cases hr), fun j hj => ?_⟩
    by_cases hji : j = i
    · subst hji; exact hy.wpOp hi hC ⟨.inr hC, H⟩
    · have := ready_mono hj hji
      rw [H.1] at this
      cases this
  | succ fuel ih =>
    intro listed a w hfree hr hy hC H
    refine ⟨fun h => (by rw [h] at hr; cases hr), fun j hj => ?_⟩
    by_cases hji : j = i
    · subst hji; exact hy.wpOp hi hC ⟨.inr hC, H⟩
    · obtain ⟨hjun, oj, hoj, hall⟩ := mem_ready.1 hj
      have hunl : listed.getD i true = false := (mem_ready.1 hr).1
      have hnot : ∀ e ∈ oj.after, Region.binds md e = true → e.on ≠ i := fun e he hb heq => by
        have h1 := hall e he hb
        rw [heq] at h1
        rcases Nat.lt_or_ge i listed.size with h' | h'
        · simp [h'] at hunl h1; rw [hunl] at h1; cases h1
        · simp [Array.getElem?_eq_none h'] at h1
      have hnb : brk j = false := by
        cases hb : brk j with
        | false => rfl
        | true =>
          obtain ⟨e, he, hb1, hb2⟩ := hbrk j oj hoj hb
          exact absurd hb2 (hnot e he hb1)
      have hap := hfree j oj hoj hji hjun hnot
      have hfree' : ∀ k ok, ops[k]? = some ok → k ≠ i → (listed.setIfInBounds j true).getD k true = false →
          (∀ e ∈ ok.after, Region.binds md e = true → e.on ≠ i) → oi.apart ops ok = true := fun k ok hk hki hun hno => by
        refine hfree k ok hk hki ?_ hno
        by_cases hjk : j = k
        · subst hjk; exact hjun
        · rw [getD_set_ne true hjk] at hun; exact hun
      have h1 := H.2 j (ready_mono hj hji)
      have h2 := wpOp_putIf hoj hap (fun cs b => hsel i oi cs b hi) (fun cs b => hsel j oj cs b hoj) hQ hy h1
      refine wpOp_mono (fun a' w' h3 => ?_) h2
      have hC' : C w' := h3.2.1.resolve_left (by simp [hnb])
      refine ⟨.inr hC', ih (listed.setIfInBounds j true) a' w' hfree' (ready_mono hr (Ne.symm hji)) h3.1 hC' ?_⟩
      rw [Array.setIfInBounds_comm _ _ hji]
      exact h3.2.2
end

/-- The orders that are looked at: take: a quiet operation first; one: the only one that may come up; alt: it comes up, or those behind do. -/
inductive DT where
  | done
  | take (i : Nat) (t : DT)
  | one (i : Nat) (t : DT)
  | alt (i : Nat) (t r : DT)

def DT.noTake : DT → Bool
  | .done => true
  | .take _ _ => false
  | .one _ t => t.noTake
  | .alt _ t r => t.noTake && r.noTake
def DT.picks : DT → List Nat
  | .one i _ => [i]
  | .alt i _ r => i :: r.picks
  | _ => []
def DT.deep : DT → Nat → Bool
  | .done, _ => true
  | .take _ t, n => (match n with | 0 => false | n + 1 => t.deep n)
  | .one _ t, n => (match n with | 0 => false | n + 1 => t.deep n)
  | .alt _ t r, n => (match n with | 0 => false | n' + 1 => t.deep n') && r.deep n
def memB (i : Nat) : List Nat → Bool
  | [] => false
  | j :: r => bif Nat.beq j i then true else memB i r
/-- Does it fit the region? -/
def waitsOn (ops : Array Oper) (j i : Nat) : Bool := match ops[j]? with | some oj => oj.after.any (fun e => Region.binds .any e && e.on == i) | none => true
def DT.ok (ops : Array Oper) (brk : List Nat) : DT → Array Bool → Bool → Bool
  | .done, listed, top => top && (Region.ready .any ops listed).isEmpty
  | .take i t, listed, top => top && (Region.free .any ops listed i && (Region.ready .any ops listed).contains i && (brk.all fun j => waitsOn ops j i) && t.ok ops brk (listed.setIfInBounds i true) true)
  | .one i t, listed, top => (!top || Region.ready .any ops listed == [i]) && (t.ok ops brk (listed.setIfInBounds i true) true && (bif memB i brk then t.noTake else true))
  | .alt i t r, listed, top => (!top || Region.ready .any ops listed == i :: r.picks) && (t.ok ops brk (listed.setIfInBounds i true) true && (bif memB i brk then t.noTake else true)) && r.ok ops brk listed false

/-- the number of an operation -/
def nthOp (K : Oper → Prop) : List Oper → Nat → Prop
  | [], _ => False
  | o :: r, n => bif Nat.beq n 0 then K o else nthOp K r (Nat.pred n)
theorem nthOp_spec {K : Oper → Prop} : ∀ {l : List Oper} {n : Nat}, nthOp K l n → ∃ o, l[n]? = some o ∧ K o
  | [], _, h => h.elim
  | o :: r, n, h => by
    unfold nthOp at h
    cases n with
    | zero => exact ⟨o, rfl, h⟩
    | succ n => obtain ⟨u, h1, h2⟩ := nthOp_spec (l := r) (n := n) h; exact ⟨u, by simpa using h1, h2⟩
/-- behind an operation that is no breaking one the region's own class holds -/
structure keepK (Hq : Heap) (S0 : Asn) (H : Heap) (S : Asn) (K : Prop) : Prop where
  out : (Hq.Sublist H ∧ ∀ R w, S.holds R w → S0.holds R w) ∧ K
theorem keepK_def {Hq : Heap} {S0 : Asn} {H : Heap} {S : Asn} {K : Prop} : keepK Hq S0 H S K = ((Hq.Sublist H ∧ ∀ R w, S.holds R w → S0.holds R w) ∧ K) := propext ⟨fun h => h.out, fun h => ⟨h⟩⟩
theorem keep_of {Hq : Heap} {S0 : Asn} {H : Heap} {S : Asn} {K : Prop} (h1 : Hq.Sublist H) (h2 : ∀ R w, S.holds R w → S0.holds R w) (h : K) : keepK Hq S0 H S K := by rw [keepK_def]; exact ⟨⟨h1, h2⟩, h⟩

theorem keepA {Hq : Heap} {S0 : Asn} {H : Heap} {S : Asn} {K : Prop} (h : K) (h1 : Hq.Sublist H := by first | exact List.Sublist.refl _ | exact List.Sublist.cons _ (List.Sublist.refl _) | exact List.Sublist.cons _ (List.Sublist.cons _ (List.Sublist.refl _)) | exact List.Sublist.cons _ (List.Sublist.cons _ (List.Sublist.cons _ (List.Sublist.refl _))))
    (h2 : ∀ R w, S.holds R w → S0.holds R w := by first | exact (fun _ _ h => h) | exact (fun _ _ h => h.1) | exact (fun _ _ h => h.1.1)) : keepK Hq S0 H S K := keep_of h1 h2 h
theorem keepB {Hq : Heap} {S0 : Asn} {H : Heap} {S : Asn} {K : Prop} (h : K) (h1 : Hq.Sublist H := by repeat (first | exact List.Sublist.refl _ | exact List.nil_sublist _ | apply List.Sublist.cons_cons | apply List.Sublist.cons))
    (h2 : ∀ R w, S.holds R w → S0.holds R w := by first | exact (fun _ _ h => h) | exact (fun _ _ h => h.1) | exact (fun _ _ h => h.1.1)) : keepK Hq S0 H S K := keep_of h1 h2 h
theorem leA {m n : Nat} {K : Prop} (hk : K) (h : m ≤ n := by first | exact Nat.le_refl _ | omega) : leK m n K := le_of h hk
theorem roomA {m n : Nat} {K : Prop} (hk : K) (h : m * n ≤ 140737488355328 := by first | omega | (dsimp only; omega)) : roomK m n K := room_of h hk
theorem ltA {m n : Nat} {K : Prop} (hk : K) (h : m < n := by omega) : ltK m n K := lt_of h hk
theorem wrapA {z : Int} {K : Int → Prop} (h : K z) (h1 : -9223372036854775808 ≤ z := by omega) (h2 : z ≤ 9223372036854775807 := by omega) : wrapK .i64 z K := wrap_i64 h1 h2 h
theorem cmpY {p : Prop} [Decidable p] {K : Bool → Prop} (h : K true) (hp : p := by omega) : cmpK p K := cmp_yes hp h
theorem cmpN {p : Prop} [Decidable p] {K : Bool → Prop} (h : K false) (hp : ¬ p := by omega) : cmpK p K := cmp_no hp h

/-- one that is picked -/
def pickW (cx : Cx) (ops : List Oper) (brk : List Nat) (Hq : Heap) (S0 : Asn) (i : Nat) (D : Env → Heap → Asn → Nat → Prop) (env : Env) (H : Heap) (S : Asn) (nx : Nat) : Prop :=
  nthOp (fun o => guardK cx.n ops o.guard env (fun b => match b with
      | true => opE cx o.op env H S nx (fun v H' S' nx' => putEK env o.dst v fun env' => bif memB i brk then D env' H' S' nx' else keepK Hq S0 H' S' (D env' H' S' nx'))
      | false => putEK env o.dst (.c undef) fun env' => bif memB i brk then D env' H S nx else keepK Hq S0 H S (D env' H S nx))) ops i
def drawW (cx : Cx) (ops : List Oper) (brk : List Nat) (Hq : Heap) (S0 : Asn) (K : Env → Heap → Asn → Nat → Prop) : DT → Env → Heap → Asn → Nat → Prop
  | .done, env, H, S, nx => K env H S nx
  | .take i t, env, H, S, nx => nthOp (fun o => guardK cx.n ops o.guard env (fun b => match b with
      | true => opQ cx o.op env Hq S0 (fun v => putEK env o.dst v fun env' => drawW cx ops brk Hq S0 K t env' H S nx)
      | false => putEK env o.dst (.c undef) fun env' => drawW cx ops brk Hq S0 K t env' H S nx)) ops i
  | .one i t, env, H, S, nx => pickW cx ops brk Hq S0 i (drawW cx ops brk Hq S0 K t) env H S nx
  | .alt i t r, env, H, S, nx => pickW cx ops brk Hq S0 i (drawW cx ops brk Hq S0 K t) env H S nx ∧ drawW cx ops brk Hq S0 K r env H S nx

theorem Abs.lift {B : Base} {ρ0 ρ : Nat → Loc} {nx0 nx : Nat} {H : Heap} {S : Asn} {w : World} (h : Abs B ρ0 nx0 H S w) (hr : ∀ i, i < nx0 → ρ i = ρ0 i) (hn : nx0 ≤ nx) : Abs B ρ nx H S w := by
  obtain ⟨R, φ, h⟩ := h
  refine ⟨R, φ, h.os, h.tape, h.output, h.size, fun p hp => ⟨Nat.lt_of_lt_of_le (h.pin p hp).1 hn, (hr _ (h.pin p hp).1).trans (h.pin p hp).2⟩, h.ro, h.asn, fun p hp => ⟨Nat.lt_of_lt_of_le (h.key p hp).1 hn, (h.key p hp).2.mono hn⟩, fun p hp => ?_, h.apart, h.sep⟩
  rw [hr _ (h.key p hp).1]
  exact Ent.holds_congr (fun i hi => (hr i ((h.key p hp).2 i hi)).symm) (h.ent p hp)
theorem Abs.lower {B : Base} {ρ0 ρ : Nat → Loc} {nx0 nx : Nat} {H : Heap} {S : Asn} {w : World} (h : Abs B ρ nx H S w) (hr : ∀ i, i < nx0 → ρ i = ρ0 i) (hk : ∀ p ∈ H, p.1 < nx0 ∧ p.2.lt nx0) (hp : ∀ p ∈ B.pin, p.1 < nx0) : Abs B ρ0 nx0 H S w := by
  obtain ⟨R, φ, h⟩ := h
  refine ⟨R, φ, h.os, h.tape, h.output, h.size, fun p hp' => ⟨hp p hp', (hr _ (hp p hp')).symm.trans (h.pin p hp').2⟩, h.ro, h.asn, hk, fun p hp' => ?_, h.apart, h.sep⟩
  rw [← hr _ (hk p hp').1]
  exact Ent.holds_congr (fun i hi => hr i ((hk p hp').2 i hi)) (h.ent p hp')

theorem Abs.sub {B : Base} {ρ : Nat → Loc} {nx : Nat} {H H2 : Heap} {S S2 : Asn} {w : World} (h : Abs B ρ nx H S w) (hH : H2.Sublist H) (hS : ∀ R w, S.holds R w → S2.holds R w) : Abs B ρ nx H2 S2 w := by
  obtain ⟨R, φ, hw⟩ := h
  have hw := hw.drop hH
  exact ⟨R, φ, ⟨hw.os, hw.tape, hw.output, hw.size, hw.pin, hw.ro, hS R w hw.asn, hw.key, hw.ent, hw.apart, hw.sep⟩⟩

section
variable {cx : Cx} (hok : ∀ p ∈ cx.tab, mkTI cx.P p.1 = some p.2) {ops : Array Oper} {brk : List Nat} {Hq : Heap} {S0 : Asn} {K : Env → Heap → Asn → Nat → Prop} {ρ0 : Nat → Loc} {nx0 : Nat} {Q : Exit → Act → World → Prop}
  (hsel : Region.noSelect ops = true) (hQ : ∀ c a a' w, Q (.panic c) a w → Q (.panic c) a' w) (hk : ∀ p ∈ Hq, p.1 < nx0 ∧ p.2.lt nx0) (hpin : ∀ p ∈ cx.B.pin, p.1 < nx0)
  (hfin : ∀ ρ' a' env' H' S' nx' w', (∀ i, i < nx0 → ρ' i = ρ0 i) → nx0 ≤ nx' → Sat cx.n ρ' nx' env' a' → Abs cx.B ρ' nx' H' S' w' → K env' H' S' nx' → Q .normal a' w')

include hok hk hpin in
/-- one that is picked: by what comes behind it -/
theorem pick_sound {i : Nat} {t : DT} {D : Env → Heap → Asn → Nat → Prop} {env : Env} {H : Heap} {S : Asn} {nx : Nat} {ρ : Nat → Loc} {a : Act} {w : World} {listed : Array Bool} {fuel : Nat}
    (h : pickW cx ops.toList brk Hq S0 i D env H S nx) (hnt : (bif memB i brk then t.noTake else true) = true) (hC : t.noTake = true ∨ Abs cx.B ρ0 nx0 Hq S0 w) (hs : Sat cx.n ρ nx env a) (hw : Abs cx.B ρ nx H S w) (hr : ∀ i, i < nx0 → ρ i = ρ0 i) (hn : nx0 ≤ nx)
    (ih : ∀ {env : Env} {H : Heap} {S : Asn} {nx : Nat} {ρ : Nat → Loc} {a : Act} {w : World}, D env H S nx → (t.noTake = true ∨ Abs cx.B ρ0 nx0 Hq S0 w) → Sat cx.n ρ nx env a → Abs cx.B ρ nx H S w → (∀ i, i < nx0 → ρ i = ρ0 i) → nx0 ≤ nx →
      wpAnyE cx.P .any ops Q (fun w => Abs cx.B ρ0 nx0 Hq S0 w) (fun i => memB i brk) fuel (listed.setIfInBounds i true) a w) :
    wpOp cx.P ops Q i (fun a' w' => (memB i brk = true ∨ Abs cx.B ρ0 nx0 Hq S0 w') ∧ wpAnyE cx.P .any ops Q (fun w => Abs cx.B ρ0 nx0 Hq S0 w) (fun i => memB i brk) fuel (listed.setIfInBounds i true) a' w') a w := by
  unfold pickW at h
  obtain ⟨o, ho, hh⟩ := nthOp_spec h
  rw [Array.getElem?_toList] at ho
  have hh := guardK_spec hs hh
  unfold wpOp
  rw [ho]
  dsimp only
  cases hwt : Region.wanted o (yielded ops a.tmps) with
  | true =>
    rw [hwt] at hh
    dsimp only at hh
    rw [if_pos rfl]
    refine .inl (opE_sound hok hh hs hw ?_)
    intro v ρ' H' S' nx' w' h1 h2 h3 h4 h5
    rw [putEK_eq] at h5
    have hr' : ∀ j, j < nx0 → ρ' j = ρ0 j := fun j hj => (h1 j (Nat.lt_of_lt_of_le hj hn)).trans (hr j hj)
    cases hb : memB i brk with
    | true =>
      rw [hb, cond_true] at h5
      rw [hb, cond_true] at hnt
      exact ⟨.inl rfl, ih h5 (.inl hnt) (hs.put h1 h2 h3) h4 hr' (Nat.le_trans hn h2)⟩
    | false =>
      rw [hb, cond_false] at h5
      rw [keepK_def] at h5
      have hc : Abs cx.B ρ0 nx0 Hq S0 w' := (h4.sub h5.1.1 h5.1.2).lower hr' hk hpin
      exact ⟨.inr hc, ih h5.2 (.inr hc) (hs.put h1 h2 h3) h4 hr' (Nat.le_trans hn h2)⟩
  | false =>
    rw [hwt] at hh
    dsimp only at hh
    rw [if_neg (by simp)]
    have hp := hs.put (ρ' := ρ) (nx' := nx) (d := o.dst) (v := .c undef) (fun _ _ => rfl) (Nat.le_refl _) (SV.lt_c _)
    rw [putEK_eq] at hh
    cases hb : memB i brk with
    | true =>
      rw [hb, cond_true] at hh
      rw [hb, cond_true] at hnt
      exact ⟨.inl rfl, ih hh (.inl hnt) hp hw hr hn⟩
    | false =>
      rw [hb, cond_false] at hh
      rw [keepK_def] at hh
      have hc : Abs cx.B ρ0 nx0 Hq S0 w := (hw.sub hh.1.1 hh.1.2).lower hr hk hpin
      exact ⟨.inr hc, ih hh.2 (.inr hc) hp hw hr hn⟩

/-- what is shown of a tree: from its top, or of each that it picks -/
def Shown (cx : Cx) (ops : Array Oper) (brk : List Nat) (Hq : Heap) (S0 : Asn) (ρ0 : Nat → Loc) (nx0 : Nat) (Q : Exit → Act → World → Prop) (t : DT) (listed : Array Bool) (fuel : Nat) (a : Act) (w : World) : Bool → Prop
  | true => wpAnyE cx.P .any ops Q (fun w => Abs cx.B ρ0 nx0 Hq S0 w) (fun i => memB i brk) fuel listed a w
  | false => ∃ n, fuel = n + 1 ∧ ∀ i ∈ t.picks, wpOp cx.P ops Q i (fun a' w' => (memB i brk = true ∨ Abs cx.B ρ0 nx0 Hq S0 w') ∧ wpAnyE cx.P .any ops Q (fun w => Abs cx.B ρ0 nx0 Hq S0 w) (fun i => memB i brk) n (listed.setIfInBounds i true) a' w') a w
theorem Shown.top {t : DT} {listed : Array Bool} {fuel : Nat} {a : Act} {w : World} {top : Bool} (hp : top = true → Region.ready .any ops listed = t.picks ∧ t.picks ≠ [])
    (h : Shown cx ops brk Hq S0 ρ0 nx0 Q t listed fuel a w false) : Shown cx ops brk Hq S0 ρ0 nx0 Q t listed fuel a w top := by
  cases top with
  | false => exact h
  | true =>
    obtain ⟨h1, h2⟩ := hp rfl
    obtain ⟨n, rfl, h⟩ := h
    refine ⟨fun h0 => absurd (h1.symm.trans h0) h2, ?_⟩
    rw [h1]
    exact h

include hok hsel hQ hk hpin hfin in
theorem drawW_sound : ∀ {t : DT} {env : Env} {H : Heap} {S : Asn} {nx : Nat} {ρ : Nat → Loc} {a : Act} {w : World} {listed : Array Bool} {fuel : Nat} {top : Bool},
    drawW cx ops.toList brk Hq S0 K t env H S nx → t.ok ops brk listed top = true → t.deep fuel = true → (t.noTake = true ∨ Abs cx.B ρ0 nx0 Hq S0 w) → Sat cx.n ρ nx env a → Abs cx.B ρ nx H S w → (∀ i, i < nx0 → ρ i = ρ0 i) → nx0 ≤ nx →
    Shown cx ops brk Hq S0 ρ0 nx0 Q t listed fuel a w top
  | .done, env, H, S, nx, ρ, a, w, listed, fuel, top, h, hok', _, _, hs, hw, hr, hn => by
    simp only [DT.ok, List.isEmpty_iff, Bool.and_eq_true] at hok'
    obtain ⟨rfl, hok'⟩ := hok'
    have hq := hfin ρ a env H S nx w hr hn hs hw h
    cases fuel with
    | zero => exact ⟨hok', hq⟩
    | succ fuel => exact ⟨fun _ => hq, by rw [hok']; simp⟩
  | .take i t, env, H, S, nx, ρ, a, w, listed, fuel, top, h, hok', hd, hC, hs, hw, hr, hn => by
    have hC := hC.resolve_left (by simp [DT.noTake])
    simp only [DT.ok, Bool.and_eq_true, List.all_eq_true] at hok'
    obtain ⟨rfl, ⟨⟨hf, hrd⟩, hb⟩, hok'⟩ := hok'
    cases fuel with
    | zero => simp [DT.deep] at hd
    | succ fuel =>
    simp only [DT.deep] at hd
    unfold drawW at h
    obtain ⟨o, ho, h⟩ := nthOp_spec h
    rw [Array.getElem?_toList] at ho
    have h := guardK_spec hs h
    have hbrk : ∀ j oj, ops[j]? = some oj → memB j brk = true → ∃ e ∈ oj.after, Region.binds .any e = true ∧ e.on = i := by
      intro j oj hoj hj
      have hmem : ∀ {l : List Nat}, memB j l = true → j ∈ l := by
        intro l
        induction l with
        | nil => intro h; simp [memB] at h
        | cons x r ih =>
          intro h
          unfold memB at h
          cases hx : Nat.beq x j with
          | true => have := Nat.eq_of_beq_eq_true hx; subst this; simp
          | false => rw [hx] at h; exact List.mem_cons_of_mem _ (ih h)
      have := hb j (hmem hj)
      unfold waitsOn at this
      rw [hoj] at this
      obtain ⟨e, he, hb'⟩ := Array.any_eq_true'.1 this
      simp only [Bool.and_eq_true, beq_iff_eq] at hb'
      exact ⟨e, he, hb'.1, hb'.2⟩
    have go : ∀ v : SV, v.lt nx → YieldsIf cx.P ops (fun w => Abs cx.B ρ0 nx0 Hq S0 w) o (v.rf ρ) a → drawW cx ops.toList brk Hq S0 K t (putE env o.dst v) H S nx →
        wpAnyE cx.P .any ops Q (fun w => Abs cx.B ρ0 nx0 Hq S0 w) (fun i => memB i brk) (fuel + 1) listed a w := by
      intro v hv hy h
      exact wpAnyE_first ho (Region.noSelect_spec hsel) (fun c a w hq => hQ c _ _ w hq) hbrk fuel listed a w (Region.free_spec ho hf) (by simpa using hrd) hy hC
        (drawW_sound (top := true) h hok' hd (.inr hC) (hs.put (fun _ _ => rfl) (Nat.le_refl _) hv) hw hr hn)
    cases hwt : Region.wanted o (yielded ops a.tmps) with
    | true =>
      rw [hwt] at h
      dsimp only at h
      obtain ⟨v, h1, h2, h3⟩ := opQ_sound hok hs (hC.lift hr hn) h
      rw [putEK_eq] at h2
      exact go v h1 (.inl ⟨hwt, fun w' hw' => h3 w' (hw'.lift hr hn)⟩) h2
    | false =>
      rw [hwt] at h
      dsimp only at h
      rw [putEK_eq] at h
      exact go (.c undef) (SV.lt_c _) (.inr ⟨hwt, rfl⟩) h
  | .one i t, env, H, S, nx, ρ, a, w, listed, fuel, top, h, hok', hd, hC, hs, hw, hr, hn => by
    simp only [DT.ok, Bool.and_eq_true, Bool.or_eq_true, Bool.not_eq_true', beq_iff_eq] at hok'
    obtain ⟨hrd, hok1, hnt⟩ := hok'
    cases fuel with
    | zero => simp [DT.deep] at hd
    | succ fuel =>
    simp only [DT.deep] at hd
    unfold drawW at h
    refine Shown.top (fun ht => ⟨hrd.resolve_left (by simp [ht]), by simp [DT.picks]⟩) ⟨fuel, rfl, fun i' hi' => ?_⟩
    obtain rfl : i' = i := by simpa [DT.picks] using hi'
    exact pick_sound hok hk hpin h hnt (by simpa only [DT.noTake] using hC) hs hw hr hn fun g1 g2 g3 g4 g5 g6 => drawW_sound (top := true) g1 hok1 hd g2 g3 g4 g5 g6
  | .alt i t r, env, H, S, nx, ρ, a, w, listed, fuel, top, h, hok', hd, hC, hs, hw, hr, hn => by
    simp only [DT.ok, Bool.and_eq_true, Bool.or_eq_true, Bool.not_eq_true', beq_iff_eq] at hok'
    obtain ⟨⟨hrd, hok1, hnt⟩, hok2⟩ := hok'
    cases fuel with
    | zero => simp [DT.deep] at hd
    | succ fuel =>
    simp only [DT.deep, Bool.and_eq_true] at hd
    unfold drawW at h
    have hC1 : t.noTake = true ∨ Abs cx.B ρ0 nx0 Hq S0 w := hC.elim (fun g => by simp only [DT.noTake, Bool.and_eq_true] at g; exact .inl g.1) .inr
    have hC2 : r.noTake = true ∨ Abs cx.B ρ0 nx0 Hq S0 w := hC.elim (fun g => by simp only [DT.noTake, Bool.and_eq_true] at g; exact .inl g.2) .inr
    refine Shown.top (fun ht => ⟨hrd.resolve_left (by simp [ht]), by simp [DT.picks]⟩) ⟨fuel, rfl, fun i' hi' => ?_⟩
    simp only [DT.picks, List.mem_cons] at hi'
    rcases hi' with rfl | hi'
    · exact pick_sound hok hk hpin h.1 hnt hC1 hs hw hr hn fun g1 g2 g3 g4 g5 g6 => drawW_sound (top := true) g1 hok1 hd.1 g2 g3 g4 g5 g6
    · obtain ⟨n, e, hh⟩ := drawW_sound (top := false) h.2 hok2 hd.2 hC2 hs hw hr hn
      obtain rfl : fuel = n := by omega
      exact hh i' hi'
end

/-- A REGION THAT DRAWS, BY THE ORDERS OF A TREE. Hq: the entries that it reads. -/
theorem draw_tree {cx : Cx} (hok : ∀ p ∈ cx.tab, mkTI cx.P p.1 = some p.2) (hm : cx.P.follows .mixedOrders = true) {id : Nat} {ops : Array Oper} {env : Env} {H : Heap} {S : Asn} {nx : Nat} {K : Env → Heap → Asn → Nat → Prop} (brk : List Nat) (Hq : Heap) (t : DT)
    (hsel : Region.noSelect ops = true) (ht : t.ok ops brk (Array.replicate ops.size false) true = true) (hd : t.deep ops.size = true) (hH : Hq.Sublist H) (h : drawW cx ops.toList brk Hq S K t env H S nx) : drawK cx id ops env H S nx K := by
  rw [drawK_def, Wp_def]
  intro ρ a w hs hw
  refine wp_region_any hm (wpAny_of_E (C := fun w => Abs cx.B ρ nx Hq S w) (brk := fun i => memB i brk) _ _ _ _ ?_)
  have hw' := hw.drew
  have hkeys : (∀ p ∈ Hq, p.1 < nx ∧ p.2.lt nx) ∧ ∀ p ∈ cx.B.pin, p.1 < nx := by
    obtain ⟨R, φ, hw⟩ := hw
    exact ⟨fun p hp => hw.key p (hH.subset hp), fun p hp => (hw.pin p hp).1⟩
  refine drawW_sound (top := true) (ρ0 := ρ) (nx0 := nx) hok hsel ?_ hkeys.1 hkeys.2 ?_ h ht hd (.inr (hw'.sub hH (fun _ _ h => h))) hs hw' (fun _ _ => rfl) (Nat.le_refl _)
  · rintro c a a' w ⟨ρ', env', H', S', nx', _, _, _, _, h6, _⟩
    cases h6
  · intro ρ' a' env' H' S' nx' w' h1 h2 h3 h4 h5
    exact ⟨ρ', env', H', S', nx', h1, h2, h3, h4, rfl, h5⟩

structure callQ (cx : Cx) (f : FuncId) (args : List SV) (H : Heap) (S : Asn) (nx : Nat) (K : SV → Prop) : Prop where
  out : (∀ as w, (callFunc f as).run cx.P w = .ok (.enter f as) w) ∧
  ∃ val : Value, (∀ ρ w, Abs cx.B ρ nx H S w → Calls cx.P f (SV.rfs ρ args).toArray w (fun e w' => e = .returned val ∧ Ext w w')) ∧ K (.c val)
theorem callQ_def {cx : Cx} {f : FuncId} {args : List SV} {H : Heap} {S : Asn} {nx : Nat} {K : SV → Prop} : callQ cx f args H S nx K = ((∀ as w, (callFunc f as).run cx.P w = .ok (.enter f as) w) ∧
  ∃ val : Value, (∀ ρ w, Abs cx.B ρ nx H S w → Calls cx.P f (SV.rfs ρ args).toArray w (fun e w' => e = .returned val ∧ Ext w w')) ∧ K (.c val)) := propext ⟨fun h => h.out, fun h => ⟨h⟩⟩
theorem callQ_of {cx : Cx} {f : FuncId} {args : List SV} {H : Heap} {S : Asn} {nx : Nat} {K : SV → Prop} (hf : ∀ as w, (callFunc f as).run cx.P w = .ok (.enter f as) w) (val : Value)
    (hc : ∀ ρ w, Abs cx.B ρ nx H S w → Calls cx.P f (SV.rfs ρ args).toArray w (fun e w' => e = .returned val ∧ Ext w w')) (h : K (.c val)) : callQ cx f args H S nx K := by
  rw [callQ_def]; exact ⟨hf, val, hc, h⟩
def callVQ (cx : Cx) (fv : SV) (args : List SV) (H : Heap) (S : Asn) (nx : Nat) (K : SV → Prop) : Prop :=
  match fv with
  | .c (.func (.func f) a b) => (match a.toList, b.toList with
    | [], [] => callQ cx f args H S nx K
    | x, y => callQ cx f (cs x ++ args ++ cs y) H S nx K)
  | .fn (.func f) a b => callQ cx f (a ++ args ++ b) H S nx K
  | _ => False
def calleeOf : Op → Option (Operand × List Operand)
  | .call c => (match c.callee with | .value f => some (f, c.args.toList) | _ => none)
  | _ => none
def regQ (cx : Cx) (ops : List Oper) (H : Heap) (S : Asn) (nx : Nat) (K : Env → Prop) : List Oper → Env → Prop
  | [], env => K env
  | o :: r, env => guardK cx.n ops o.guard env (fun b => match b with
    | true => (match calleeOf o.op with
      | some (f, as) => evK cx.n env f fun fv => evsK cx.n env (fun l => callVQ cx fv l H S nx (fun v => putEK env o.dst v (regQ cx ops H S nx K r))) as
      | none => opQ cx o.op env H S (fun v => putEK env o.dst v (regQ cx ops H S nx K r)))
    | false => putEK env o.dst (.c undef) (regQ cx ops H S nx K r))

section
variable {cx : Cx} (hok : ∀ p ∈ cx.tab, mkTI cx.P p.1 = some p.2)
include hok in
theorem regQ_sound {ops : Array Oper} {ρ : Nat → Loc} {H : Heap} {S : Asn} {nx : Nat} {K : Env → Prop} {w0 : World} (hw0 : Abs cx.B ρ nx H S w0) : ∀ {l : List Oper} {env : Env} {a : Act} {Q : Act → Prop},
    regQ cx ops.toList H S nx K l env → Sat cx.n ρ nx env a → (∀ env' a', Sat cx.n ρ nx env' a' → K env' → Q a') → wpQuiet cx.P ops (fun w => Abs cx.B ρ nx H S w) Q l a
  | [], env, a, Q, h, hs, hq => hq env a hs h
  | o :: r, env, a, Q, h, hs, hq => by
    unfold regQ at h
    have h := guardK_spec hs h
    unfold wpQuiet
    have rest : ∀ v : SV, v.lt nx → regQ cx ops.toList H S nx K r (putE env o.dst v) → wpQuiet cx.P ops (fun w => Abs cx.B ρ nx H S w) Q r (a.put o.dst (v.rf ρ)) := fun v hv h =>
      regQ_sound hw0 h (hs.put (fun _ _ => rfl) (Nat.le_refl _) hv) hq
    cases hwt : Region.wanted o (yielded ops a.tmps) with
    | false =>
      rw [hwt] at h
      rw [if_neg (by simp)]
      rw [putEK_eq] at h
      exact rest (.c undef) (SV.lt_c _) h
    | true =>
      rw [hwt] at h
      dsimp only at h
      rw [if_pos rfl]
      cases hc : calleeOf o.op with
      | none =>
        rw [hc] at h
        dsimp only at h
        obtain ⟨v, h1, h2, h3⟩ := opQ_sound hok hs hw0 h
        rw [putEK_eq] at h2
        refine ⟨v.rf ρ, fun w hw => ?_, rest v h1 h2⟩
        unfold Oper.quietAt
        rw [h3 w hw]
        exact ⟨rfl, rfl⟩
      | some x =>
        obtain ⟨f, as⟩ := x
        rw [hc] at h
        dsimp only at h
        obtain ⟨dst, op, type, pos, after, guard⟩ := o
        cases op with
        | call c =>
          simp only [calleeOf] at hc
          cases hcc : c.callee with
          | value f' =>
            rw [hcc] at hc
            obtain ⟨rfl, rfl⟩ : f' = f ∧ c.args.toList = as := by simpa using hc
            obtain ⟨fv, h1, h2, h3⟩ := evK_spec hs h
            obtain ⟨l, h4, h5, h6⟩ := evsK_spec hs h1
            have e1 : c.args.map a.eval = (SV.rfs ρ l).toArray := by rw [← h5]; apply Array.ext'; simp
            have run : ∀ (g : FuncId) (x y : Array Value), a.eval f' = .func (.func g) x y → ∀ w, (execOp a.eval ⟨dst, .call c, type, pos, after, guard⟩).run cx.P w = (callFunc g (x ++ (SV.rfs ρ l).toArray ++ y)).run cx.P w := by
              intro g x y hf w
              simp only [execOp, resolve, hcc, e1, hf, Deferred.ofValue, Sem.run_bind, Sem.run_pure, Result.andThen_ok, invoke]
            have fin : ∀ (g : FuncId) (x y : Array Value) (args : List SV), a.eval f' = .func (.func g) x y → x ++ (SV.rfs ρ l).toArray ++ y = (SV.rfs ρ args).toArray →
                callQ cx g args H S nx (fun v => putEK env dst v (regQ cx ops.toList H S nx K r)) → Oper.quiet cx.P ⟨dst, .call c, type, pos, after, guard⟩ a (fun w => Abs cx.B ρ nx H S w) (wpQuiet cx.P ops (fun w => Abs cx.B ρ nx H S w) Q r) := by
              intro g x y args hf ha hq'
              rw [callQ_def] at hq'
              obtain ⟨g1, val, g2, g3⟩ := hq'
              rw [putEK_eq] at g3
              refine ⟨val, fun w hw => ?_, rest (.c val) (SV.lt_c _) g3⟩
              unfold Oper.quietAt
              rw [run g x y hf w, g1]
              refine ⟨rfl, ?_⟩
              rw [ha]
              exact (g2 ρ w hw).mono fun e w'' he => ⟨he.1, hw.ext he.2⟩
            unfold callVQ at h4
            split at h4
            · rename_i g x y
              split at h4
              · rename_i hx hy
                have hx' : x = #[] := by cases x; simpa using hx
                have hy' : y = #[] := by cases y; simpa using hy
                exact fin g x y _ (by rw [h2]; rfl) (by subst hx'; subst hy'; simp) h4
              · exact fin g x y _ (by rw [h2]; rfl) (by rw [rfs_append, rfs_append, rfs_cs, rfs_cs]; apply Array.ext'; simp) h4
            · rename_i g x y
              exact fin g _ _ _ (by rw [h2]; rfl) (by rw [rfs_append, rfs_append]; apply Array.ext'; simp) h4
            · exact h4.elim
          | invoke r m => rw [hcc] at hc; cases hc
          | builtin b => rw [hcc] at hc; cases hc
        | _ => cases hc
end

/-- A region that draws and only reads. -/
theorem draw_quiet {cx : Cx} (hok : ∀ p ∈ cx.tab, mkTI cx.P p.1 = some p.2) (hm : cx.P.follows .mixedOrders = true) {id : Nat} {ops : Array Oper} {env : Env} {H : Heap} {S : Asn} {nx : Nat} {K : Env → Heap → Asn → Nat → Prop}
    (hB : Region.lexB .any ops = true) (h : regQ cx ops.toList H S nx (fun env' => K env' H S nx) ops.toList env) : drawK cx id ops env H S nx K := by
  rw [drawK_def, Wp_def]
  intro ρ a w hs hw
  refine wp_region_quiet (C := fun w => Abs cx.B ρ nx H S w) hm hB hw.drew ?_
  refine regQ_sound hok hw h hs ?_
  intro env' a' hs' hk w' hw'
  exact ⟨ρ, env', H, S, nx, fun _ _ => rfl, Nat.le_refl _, hs', hw', rfl, hk⟩
end Go.SX

/- SxT -/
namespace Go.SX
open Go.RowKit

theorem rowsA_in {base : Option Addr} {k : Nat} {xs : List (List Value)} {R : Nat → Prop} {w : World} (h : (rowsA base k xs).holds R w) : RowsI w base k xs := by
  rcases h.2 with h | ⟨b, off, h1, _, h3⟩
  · exact .inl h
  · exact .inr ⟨_, h1, fun i r hi j v hj => by rw [add_none]; exact h3 i r hi j v hj⟩
/-- the same with the slice's value -/
def rowsV (v : Value) (k : Nat) (xs : List (List Value)) : Asn where
  holds R w := ∃ base cap, v = .slice base xs.length cap ∧ (rowsA base k xs).holds R w
  stable := by
    rintro R R' w w' hR hw ⟨base, cap, h1, h2⟩
    exact ⟨base, cap, h1, (rowsA base k xs).stable hR hw h2⟩

mutual
def SV.fz (i : Nat) (l : Loc) : SV → SV
  | .c v => .c v
  | .lp j a k f => bif Nat.beq j i then .c (.pointer (l.base.map (·.add (a * k + f)))) else .lp j a k f
  | .os j n => bif Nat.beq j i then .c (.slice l.base n l.cap) else .os j n
  | .agg xs => .agg (SV.fzs i l xs)
  | .tup xs => .tup (SV.fzs i l xs)
  | .fn f a b => .fn f (SV.fzs i l a) (SV.fzs i l b)
  | .ifc t v => .ifc t (v.fz i l)
def SV.fzs (i : Nat) (l : Loc) : List SV → List SV
  | [] => []
  | v :: r => v.fz i l :: SV.fzs i l r
end
mutual
theorem SV.rf_fz (i : Nat) (ρ : Nat → Loc) : ∀ v : SV, (v.fz i (ρ i)).rf ρ = v.rf ρ
  | .c _ => rfl
  | .lp j a k f => by
    simp only [SV.fz]
    cases h : Nat.beq j i with
    | true => have := Nat.eq_of_beq_eq_true h; subst this; rfl
    | false => rfl
  | .os j n => by
    simp only [SV.fz]
    cases h : Nat.beq j i with
    | true => have := Nat.eq_of_beq_eq_true h; subst this; rfl
    | false => rfl
  | .agg l => by simp only [SV.fz, SV.rf]; rw [SV.rfs_fz i ρ l]
  | .tup l => by simp only [SV.fz, SV.rf]; rw [SV.rfs_fz i ρ l]
  | .fn f a b => by simp only [SV.fz, SV.rf]; rw [SV.rfs_fz i ρ a, SV.rfs_fz i ρ b]
  | .ifc t v => by simp only [SV.fz, SV.rf]; rw [SV.rf_fz i ρ v]
theorem SV.rfs_fz (i : Nat) (ρ : Nat → Loc) : ∀ l : List SV, SV.rfs ρ (SV.fzs i (ρ i) l) = SV.rfs ρ l
  | [] => rfl
  | v :: r => by simp only [SV.fzs, SV.rfs]; rw [SV.rf_fz i ρ v, SV.rfs_fz i ρ r]
end
mutual
theorem SV.has_fz {i x : Nat} {l : Loc} : ∀ {v : SV}, (v.fz i l).has x = true → v.has x = true
  | .c _, h => h
  | .lp j a k f, h => by
    simp only [SV.fz] at h
    cases hb : Nat.beq j i with
    | true => rw [hb] at h; simp [SV.has] at h
    | false => rw [hb] at h; exact h
  | .os j n, h => by
    simp only [SV.fz] at h
    cases hb : Nat.beq j i with
    | true => rw [hb] at h; simp [SV.has] at h
    | false => rw [hb] at h; exact h
  | .agg l, h => by simp only [SV.fz, SV.has] at h ⊢; exact SV.hass_fz h
  | .tup l, h => by simp only [SV.fz, SV.has] at h ⊢; exact SV.hass_fz h
  | .fn f a b, h => by
    simp only [SV.fz, SV.has, Bool.or_eq_true] at h ⊢
    exact h.imp SV.hass_fz SV.hass_fz
  | .ifc t v, h => by simp only [SV.fz, SV.has] at h ⊢; exact SV.has_fz h
theorem SV.hass_fz {i x : Nat} {l : Loc} : ∀ {xs : List SV}, SV.hass x (SV.fzs i l xs) = true → SV.hass x xs = true
  | [], h => h
  | v :: r, h => by
    simp only [SV.fzs, SV.hass, Bool.or_eq_true] at h ⊢
    exact h.imp SV.has_fz SV.hass_fz
end
def Env.fz (i : Nat) (l : Loc) : Env → Env
  | [] => []
  | (t, v) :: r => (t, v.fz i l) :: Env.fz i l r
theorem Env.get_fz {i : Nat} {l : Loc} : ∀ {env : Env} {t : Nat} {v : SV}, (env.fz i l).get t = some v → ∃ u, env.get t = some u ∧ v = u.fz i l
  | [], t, v, h => by cases h
  | (j, u) :: r, t, v, h => by
    simp only [Env.fz, Env.get_cons] at h ⊢
    by_cases hj : j = t
    · rw [if_pos hj] at h ⊢; exact ⟨u, rfl, by simpa using h.symm⟩
    · rw [if_neg hj] at h ⊢; exact Env.get_fz h
def Ent.fz (i : Nat) (l : Loc) : Ent → Ent
  | .box cs T => .box (SV.fzs i l cs) T
  | e => e
def Heap.fz (i : Nat) (l : Loc) : Heap → Heap
  | [] => []
  | (j, e) :: r => (j, e.fz i l) :: Heap.fz i l r
theorem Heap.fz_eq (i : Nat) (l : Loc) (H : Heap) : Heap.fz i l H = H.map fun p => (p.1, p.2.fz i l) := by
  induction H with
  | nil => rfl
  | cons p r ih => obtain ⟨j, e⟩ := p; simp [Heap.fz, ih]

/-- One's own rows are written no more: from here on they stay. -/
theorem Wp.freeze {cx : Cx} {c : Code} {env : Env} {H : Heap} {S : Asn} {nx : Nat} {K : Exit → Env → Heap → Asn → Nat → Prop} (i : Nat) {xs : List (List Value)} {k : Nat} {T : TypeId} (he : (i, Ent.rows xs k T) ∈ H)
    (h : ∀ l : Loc, xs.length ≤ l.cap → Wp cx c (env.fz i l) (Heap.fz i l (delH i H)) (S.and (rowsA l.base k xs)) nx K) : Wp cx c env H S nx K := by
  simp only [Wp_def] at *
  intro ρ a w hs hw
  obtain ⟨R, φ, hw⟩ := hw
  have hent := hw.ent _ he
  obtain ⟨hr, hcap, hent'⟩ := hent
  have hdel : ∀ p ∈ delH i H, p.1 ≠ i ∧ ∀ b, φ p.1 b → ¬ φ i b := by
    have : ∀ {H : Heap}, H.Pairwise (fun p q => p.1 ≠ q.1 ∧ ∀ b, φ p.1 b → ¬ φ q.1 b) → ∀ {e : Ent}, (i, e) ∈ H → ∀ p ∈ delH i H, p.1 ≠ i ∧ ∀ b, φ p.1 b → ¬ φ i b := by
      intro H hsep
      induction H with
      | nil => intro e he; cases he
      | cons q r ih =>
        obtain ⟨hq, hr⟩ := List.pairwise_cons.1 hsep
        intro e he p hp
        obtain ⟨qi, qe⟩ := q
        unfold delH at hp
        cases hbq : Nat.beq qi i with
        | true =>
          rw [hbq, cond_true] at hp
          have := Nat.eq_of_beq_eq_true hbq
          subst this
          exact ⟨(hq p hp).1.symm, fun b hb hb' => (hq p hp).2 b hb' hb⟩
        | false =>
          rw [hbq, cond_false] at hp
          have hne := Nat.ne_of_beq_eq_false hbq
          have her : (i, e) ∈ r := (List.mem_cons.1 he).resolve_left (fun g => hne (by simpa using congrArg Prod.fst g.symm))
          rcases List.mem_cons.1 hp with g | g
          · subst g; exact ⟨hne, (hq _ her).2⟩
          · exact ih hr her p g
    exact this hw.sep he
  refine h (ρ i) hcap ρ a w ⟨hs.defers, hs.size, fun t v hv ht => ?_, fun t v hv => ?_⟩ ?_
  · obtain ⟨u, hu, rfl⟩ := Env.get_fz hv
    rw [hs.val t u hu ht, SV.rf_fz]
  · obtain ⟨u, hu, rfl⟩ := Env.get_fz hv
    exact fun x hx => hs.lt t u hu x (SV.has_fz hx)
  · have hsub := hw.drop (delH_sublist i H)
    refine ⟨fun b => R b ∨ φ i b, φ, hw.os, hw.tape, hw.output, hw.size, hw.pin, fun b hb => hb.elim (hw.ro b) (fun hb => Ent.size (hw.ent _ he) hb), ⟨S.stable (fun _ h => .inl h) (fun _ _ => rfl) hw.asn, ?_⟩, ?_, ?_, ?_, ?_⟩
    · refine ⟨hr, ?_⟩
      rcases hent' with ⟨h1, h2, _⟩ | ⟨b, off, c', h1, h2, h3, h4, h5⟩
      · simp only at hcap h2; exact .inl (List.eq_nil_of_length_eq_zero (by omega))
      · exact .inr ⟨b, off, h1, .inr ((h2 b).2 rfl), fun m r hm j v hj => by have := h5 m r hm j v hj; rw [← Nat.add_assoc]; simpa [World.cell?, h3] using this⟩
    · rw [Heap.fz_eq]
      intro p hp
      obtain ⟨q, hq, rfl⟩ := List.mem_map.1 hp
      refine ⟨(hsub.key q hq).1, fun x hx => ?_⟩
      cases hqe : q.2 with
      | box cs T =>
        rw [hqe] at hx
        have := (hsub.key q hq).2
        rw [hqe] at this
        exact this x (SV.hass_fz hx)
      | rows xs k T => rw [hqe] at hx; simp [Ent.fz, Ent.hass] at hx
      | ext o => rw [hqe] at hx; simp [Ent.fz, Ent.hass] at hx
    · rw [Heap.fz_eq]
      intro p hp
      obtain ⟨q, hq, rfl⟩ := List.mem_map.1 hp
      have := hsub.ent q hq
      dsimp only
      cases hqe : q.2 with
      | box cs T =>
        rw [hqe] at this
        obtain ⟨b, h1, h2, h3⟩ := this
        exact ⟨b, h1, h2, by rw [SV.rfs_fz]; exact h3⟩
      | rows xs k T => rw [hqe] at this; exact this
      | ext o => rw [hqe] at this; exact this
    · rw [Heap.fz_eq]
      intro p hp b hb hb'
      obtain ⟨q, hq, rfl⟩ := List.mem_map.1 hp
      exact hb'.elim (hsub.apart q hq b hb) ((hdel q hq).2 b hb)
    · rw [Heap.fz_eq]
      exact List.pairwise_map.2 hsub.sep

/-- new rows: in no block that was there -/
def NewRows (w w' : World) (v : Value) (k : Nat) (T : TypeId) (xs : List (List Value)) : Prop :=
  ∃ l : Loc, v = .slice l.base xs.length l.cap ∧ ∃ F : Nat → Prop, (∀ b, F b → w.heap.size ≤ b) ∧ (Ent.rows xs k T).holds (fun _ => l) l F w'

theorem new_of_abs {B : Base} {ρ : Nat → Loc} {nx : Nat} {H : Heap} {S : Asn} {w : World} {i : Nat} {xs : List (List Value)} {k : Nat} {T : TypeId} (h : Abs B ρ nx H S w) (hS : ∀ R w', S.holds R w' → (baseA B.w0).holds R w') (he : (i, Ent.rows xs k T) ∈ H) :
    NewRows B.w0 w ((SV.os i xs.length).rf ρ) k T xs := by
  obtain ⟨R, φ, h⟩ := h
  have hb := hS R w h.asn
  refine ⟨ρ i, rfl, φ i, fun b hbb => ?_, h.ent _ he⟩
  rcases Nat.lt_or_ge b B.w0.heap.size with hl | hl
  · exact absurd (hb b hl).1 (h.apart _ he b hbb)
  · exact hl

theorem call_new {cx : Cx} {f : FuncId} {args : List SV} {H : Heap} {S : Asn} {nx : Nat} {K : SV → Heap → Asn → Nat → Prop} (hf : ∀ as w, (callFunc f as).run cx.P w = .ok (.enter f as) w) (k : Nat) (T : TypeId) {α : Type} (xs : α → List (List Value)) (p : α → Prop)
    (hc : ∀ ρ w, Abs cx.B ρ nx H S w → Calls cx.P f (SV.rfs ρ args).toArray w (fun e w' => ∃ x, p x ∧ ∃ v, e = .returned v ∧ Ext w w' ∧ NewRows w w' v k T (xs x)))
    (h : ∀ x, p x → K (.os nx (xs x).length) ((nx, .rows (xs x) k T) :: H) S (nx + 1)) : callK cx f args H S nx K := by
  rw [callK_def]
  refine ⟨hf, fun ρ w hw => (hc ρ w hw).mono ?_⟩
  rintro e w' ⟨x, hp, v, rfl, he, l, rfl, F, hF, hent⟩
  have hw' := hw.ext he
  obtain ⟨R, φ, hwR⟩ := hw
  have hwR' := hwR.step (Step.of_ext he) (fun _ _ h => h) (fun _ _ _ _ h => h)
  refine ⟨.os nx (xs x).length, upd ρ nx l, _, S, nx + 1, by simp [SV.rf, upd_same], fun i hi => upd_lt hi, Nat.le_succ _, SV.lt_os (by omega), ?_, h x hp⟩
  refine ⟨R, _, hwR'.add (F := F) (fun y hy => by simp [Ent.hass] at hy) hent (fun b hb hR => ?_) (fun p hp b hb hb' => ?_)⟩
  · have := hwR.ro b hR; have := hF b hb; omega
  · have := Ent.size (hwR.ent p hp) hb; have := hF b hb'; omega

end Go.SX

/- SxU -/
namespace Go.SX
open Go.RowKit

def ints (xs : List Int) : List (List Value) := xs.map fun x => [.int .i64 x]
theorem ints_length (xs : List Int) : (ints xs).length = xs.length := by simp [ints]
theorem ints_get {xs : List Int} {k : Nat} (h : k < xs.length) : (ints xs)[k]? = some [.int .i64 xs[k]] := by simp [ints, h]
theorem ints_row {xs : List Int} : ∀ r ∈ ints xs, r.length = 1 ∧ ∀ v ∈ r, v.oneCell' = true := by
  intro r hr
  simp only [ints, List.mem_map] at hr
  obtain ⟨x, _, rfl⟩ := hr
  exact ⟨rfl, fun v hv => by simp at hv; subst hv; rfl⟩

theorem cell_block {w : World} {a : Addr} {v : Value} (h : w.cell? a = some v) : a.block < w.heap.size := by
  unfold World.cell? at h
  split at h
  · rename_i c _ _ hb; exact lt_size_of_some hb
  · cases h
theorem cell_same {w w' : World} {a : Addr} (h : w'.heap[a.block]? = w.heap[a.block]?) : w'.cell? a = w.cell? a := by
  unfold World.cell?; rw [h]
theorem rows_base {w w' : World} {R : Nat → Prop} {base : Option Addr} {k : Nat} {xs : List (List Value)} (hb : (baseA w).holds R w') (h : RowsI w base k xs) : RowsI w' base k xs := by
  rcases h with h | ⟨a, ha, h⟩
  · exact .inl h
  · refine .inr ⟨a, ha, fun i r hi j v hj => ?_⟩
    have := h i r hi j v hj
    rw [cell_same (hb _ (cell_block this)).2]; exact this
end Go.SX

/- SxV -/
namespace Go.SX
open Go.RowKit

theorem call_bool {cx : Cx} {f : FuncId} {args : List SV} {H : Heap} {S : Asn} {nx : Nat} {K : SV → Heap → Asn → Nat → Prop} (hf : ∀ as w, (callFunc f as).run cx.P w = .ok (.enter f as) w) (b : Bool)
    (hc : ∀ ρ w, Abs cx.B ρ nx H S w → Calls cx.P f (SV.rfs ρ args).toArray w (fun e w' => e = .returned (.bool b) ∧ Ext w w')) (h1 : b = true → K (.c (.bool true)) H S nx) (h2 : b = false → K (.c (.bool false)) H S nx) : callK cx f args H S nx K := by
  cases b with
  | true => exact call_pure hf _ hc (h1 rfl)
  | false => exact call_pure hf _ hc (h2 rfl)
theorem callQ_bool {cx : Cx} {f : FuncId} {args : List SV} {H : Heap} {S : Asn} {nx : Nat} {K : SV → Prop} (hf : ∀ as w, (callFunc f as).run cx.P w = .ok (.enter f as) w) (b : Bool)
    (hc : ∀ ρ w, Abs cx.B ρ nx H S w → Calls cx.P f (SV.rfs ρ args).toArray w (fun e w' => e = .returned (.bool b) ∧ Ext w w')) (h1 : b = true → K (.c (.bool true))) (h2 : b = false → K (.c (.bool false))) : callQ cx f args H S nx K := by
  cases b with
  | true => exact callQ_of hf _ hc (h1 rfl)
  | false => exact callQ_of hf _ hc (h2 rfl)

/-- a slice held against nil -/
theorem slice_nil_eql {P : Program} {t : TypeId} {ti : TI} (h : mkTI P t = some ti) (hk : ti.kind = 1) {ox oy : Operand} {base : Option Addr} {len cap : Nat} {K : SV → Prop} (hK : K (.c (.bool base.isNone))) :
    pureK P (do eqGuard .eql t ox oy (.slice base len cap) (.slice none 0 0); binOp .eql t (.slice base len cap) (.slice none 0 0)) K := by
  rw [pureK_def]
  obtain ⟨i, d, z, hi, hd, hz, rfl⟩ := mkTI_spec h
  simp only at hk
  have hs : ∃ e, d = .slice e := by cases d <;> first | exact ⟨_, rfl⟩ | (simp [kindOf] at hk)
  obtain ⟨e, rfl⟩ := hs
  refine ⟨.bool base.isNone, fun w => ?_, hK⟩
  have h1 : (eqGuard .eql t ox oy (.slice base len cap) (.slice none 0 0)).run P w = .ok () w := by unfold eqGuard; simp
  have h2 : (Op.equal t (.slice base len cap) (.slice none 0 0)).run P w = .ok base.isNone w := by
    unfold Op.equal
    rw [show Op.maxDepth = Nat.succ 9999 from rfl]
    unfold Op.equalIn
    simp only [Sem.run_bind, run_underlying hd, Result.andThen_ok]
    cases base <;> rfl
  simp only [Sem.run_bind, h1, Result.andThen_ok, binOp, h2, Sem.run_pure]

theorem newRows_data {w w' : World} {v : Value} {k : Nat} {T : TypeId} {xs : List (List Value)} (h : NewRows w w' v k T xs) : (rowsV v k xs).holds (fun b => w.heap.size ≤ b ∧ b < w'.heap.size) w' := by
  obtain ⟨l, rfl, F, hF, hr, hcap, hent⟩ := h
  refine ⟨l.base, l.cap, rfl, hr, ?_⟩
  rcases hent with ⟨h1, h2, _⟩ | ⟨b, off, c, h1, h2, h3, h4, h5⟩
  · exact .inl (List.eq_nil_of_length_eq_zero (by omega))
  · refine .inr ⟨b, off, h1, ⟨hF b ((h2 b).2 rfl), lt_size_of_some h3⟩, fun i r hi j v hj => ?_⟩
    have := h5 i r hi j v hj
    rw [← Nat.add_assoc]
    simpa [World.cell?, h3] using this
theorem Asn.mono (S : Asn) {R R' : Nat → Prop} {w : World} (h : S.holds R w) (hR : ∀ b, R b → R' b) : S.holds R' w := S.stable hR (fun _ _ => rfl) h

/-- rows at hand: one's own slice as a caller sees it -/
theorem rows_of_abs {B : Base} {ρ : Nat → Loc} {nx : Nat} {H : Heap} {S : Asn} {w : World} {i : Nat} {xs : List (List Value)} {k : Nat} {T : TypeId} (h : Abs B ρ nx H S w) (he : (i, Ent.rows xs k T) ∈ H) : RowsI w (ρ i).base k xs := by
  obtain ⟨R, φ, h⟩ := h
  obtain ⟨hr, hcap, hent⟩ := h.ent _ he
  simp only at hcap hent
  rcases hent with ⟨h1, h2, _⟩ | ⟨b, off, c, h1, h2, h3, h4, h5⟩
  · exact .inl (List.eq_nil_of_length_eq_zero (by omega))
  · refine .inr ⟨_, h1, fun m r hm j v hj => ?_⟩
    have := h5 m r hm j v hj
    rw [add_none, ← Nat.add_assoc]
    simpa [World.cell?, h3] using this
theorem holds_of_abs {B : Base} {ρ : Nat → Loc} {nx : Nat} {H : Heap} {S : Asn} {w : World} {p : Prop} (h : Abs B ρ nx H S w) (hp : ∀ R, S.holds R w → p) : p := by
  obtain ⟨R, φ, h⟩ := h; exact hp R h.asn
end Go.SX

/- SxW -/
namespace Go.SX
open Go.RowKit Go.ChangeShapes Go.WideShapes Go.Deep

section
variable {P : Program} {w : World}

/-- whatever is read of this type has cells of this form -/
structure Opens (P : Program) (w : World) (t : TypeId) (Q : List Value → Prop) : Prop where
  out : ∀ {H : Type} (enc : TypeId × Value → H) (base : Nat) (sp : Nat → Bool) (held : Bool) (n : Nat) (cs : List Value) (x : DataW H × List MemPlace), DataW.trod enc P w base sp held n t cs = some x → Q cs

theorem Opens.mono {t : TypeId} {Q Q' : List Value → Prop} (h : Opens P w t Q) (hq : ∀ cs, Q cs → Q' cs) : Opens P w t Q' :=
  ⟨fun enc base sp held n cs x hx => hq cs (h.out enc base sp held n cs x hx)⟩

theorem opens_int {t : TypeId} {k : IntKind} (ht : P.underlying t = some (.int k)) : Opens P w t fun cs => ∃ i, (Lit.int k i).wf = true ∧ cs = [.int k i] := by
  constructor
  intro H enc base sp held n cs x h
  obtain ⟨i, h1, _, h2⟩ := DataW.trod_int ht h
  exact ⟨i, h2, h1⟩

def SliceQ (w : World) (k : Nat) (Q : List Value → Prop) (cs : List Value) : Prop :=
  ∃ (base : Option Addr) (cap : Nat) (xs : List (List Value)), cs = [.slice base xs.length cap] ∧ RowsI w base k xs ∧ (∀ r ∈ xs, r.length = k ∧ Q r) ∧ xs.length ≤ cap ∧ cap ≤ maxLen ∧ (base = none → cap = 0)

theorem cells?_get {w : World} {base : Nat} {a : Addr} {n : Nat} {cs : List Value} (h : w.cells? base a n = some cs) : cs.length = n ∧ ∀ j v, cs[j]? = some v → w.cell? (a.add j) = some v := by
  obtain ⟨_, hl, hc⟩ := World.cells?_some h
  refine ⟨hl, fun j v hv => ?_⟩
  have hj : j < n := by rw [← hl]; exact (List.getElem?_eq_some_iff.1 hv).1
  rw [← hv]
  exact hc j hj

theorem opens_slice {t e : TypeId} {k : Nat} {Q : List Value → Prop} (ht : P.underlying t = some (.slice e)) (hc : P.cellsOf e = k) (he : Opens P w e Q) : Opens P w t (SliceQ w k Q) := by
  constructor
  intro H enc base sp held n cs x h
  rcases open_slice ht h with ⟨rfl, _⟩ | ⟨a, len, cap, m, n', D, Pl, rfl, _, hl, hm, hmm, _, hx⟩
  · exact ⟨none, 0, [], rfl, .inl rfl, fun r hr => by simp at hr, Nat.le_refl _, Nat.zero_le _, fun _ => rfl⟩
  · have hlm : len ≤ m := by rw [hmm]; split <;> omega
    obtain ⟨f, hf⟩ := choose_lt (α := List Value) (n := len) (p := fun i r => w.cells? base (a.add (i * k)) k = some r ∧ Q r) (fun i hi => by
      obtain ⟨cs', h1, h2⟩ := hx i (by omega)
      rw [hc] at h1
      exact ⟨cs', h1, he.out enc base sp held n' cs' _ h2⟩)
    refine ⟨some a, cap, (List.range len).map f, by simp, .inr ⟨a, rfl, fun i r hr j v hv => ?_⟩, fun r hr => ?_, by simpa using hl, hm, fun h0 => by cases h0⟩
    · have hi : i < len := by have := (List.getElem?_eq_some_iff.1 hr).1; simpa using this
      rw [List.getElem?_map, List.getElem?_range hi] at hr
      simp only [Option.map_some, Option.some.injEq] at hr
      subst hr
      have := (cells?_get (hf i hi).1).2 j v hv
      rwa [Deep.add_add] at this
    · simp only [List.mem_map, List.mem_range] at hr
      obtain ⟨i, hi, rfl⟩ := hr
      exact ⟨(cells?_get (hf i hi).1).1, (hf i hi).2⟩

/-- the fields: offset, number of cells, form -/
theorem opens_struct {t : TypeId} {fs : Array Field} {k : Nat} {Q : Field → List Value → Prop} (ht : P.underlying t = some (.struct fs)) (hk : P.cellsOf t = k) (hf : ∀ f ∈ fs, Opens P w f.type (Q f)) :
    Opens P w t fun cs => cs.length = k ∧ ∀ f ∈ fs, Q f ((cs.drop f.offset).take (P.cellsOf f.type)) := by
  constructor
  intro H enc base sp held n cs x h
  obtain ⟨xs, n', _, _, hl, hlen, hx⟩ := DataW.trod_struct ht h
  refine ⟨hl.trans hk, fun f hfm => ?_⟩
  obtain ⟨i, hi, rfl⟩ := Array.mem_iff_getElem.1 hfm
  have h1 := hx i fs[i] (by simp [hi])
  rw [List.getElem?_eq_getElem (by omega)] at h1
  exact (hf _ hfm).out enc base sp held n' _ _ h1

theorem list_map_of {α : Type} {f : α → List Value} {p : α → Prop} : ∀ {xs : List (List Value)}, (∀ r ∈ xs, ∃ a, p a ∧ r = f a) → ∃ l : List α, xs = l.map f ∧ ∀ a ∈ l, p a
  | [], _ => ⟨[], rfl, fun _ h => by simp at h⟩
  | r :: xs, h => by
    obtain ⟨a, ha, rfl⟩ := h r (by simp)
    obtain ⟨l, rfl, hl⟩ := list_map_of (xs := xs) fun r hr => h r (by simp [hr])
    exact ⟨a :: l, rfl, fun b hb => by rcases List.mem_cons.1 hb with rfl | hb; exact ha; exact hl b hb⟩

/-- a slice of ints -/
def IntsQ (w : World) (v : Value) (base : Option Addr) (cap : Nat) (xs : List Int) : Prop :=
  v = .slice base xs.length cap ∧ RowsI w base 1 (ints xs) ∧ (∀ x ∈ xs, (Lit.int .i64 x).wf = true) ∧ xs.length ≤ cap ∧ cap ≤ maxLen ∧ (base = none → cap = 0)

theorem opens_ints {t e : TypeId} (ht : P.underlying t = some (.slice e)) (he : P.underlying e = some (.int .i64)) (hc : P.cellsOf e = 1) : Opens P w t fun cs => ∃ v base cap xs, cs = [v] ∧ IntsQ w v base cap xs := by
  refine Opens.mono (opens_slice ht hc (opens_int he)) ?_
  rintro cs ⟨base, cap, xs, rfl, h1, h2, h3, h4, h5⟩
  obtain ⟨l, rfl, hl⟩ := list_map_of (f := fun i => [.int .i64 i]) (p := fun i => (Lit.int .i64 i).wf = true) fun r hr => (h2 r hr).2
  exact ⟨_, base, cap, l, by simp, rfl, h1, hl, by simpa using h3, h4, h5⟩

theorem cells_agg {v : Value} {cs : List Value} {t : TypeId} {fs : Array Field} {r : Reach} {b0 : Nat} (ht : P.underlying t = some (.struct fs)) (hv : Value.okWide P w r b0 t v) (h : v.cells.toList = cs) : v = .agg cs.toArray := by
  simp only [Value.okWide, ht] at hv
  obtain ⟨c, rfl, _⟩ := hv
  simp only [Value.cells] at h
  rw [← h]
end

section
variable {H : Type} {enc : TypeId × Value → H} {P : Program}

theorem trodAll_stays (hl : laidOutB P = true) {W W' : World} (hE : Ext W W') {sp : Nat → Bool} : ∀ (ts : List TypeId) (vs : List Value) (ds : List (DataW H)) (ps : List MemPlace),
    (∀ t ∈ ts, P.readableRec t = true ∧ t < P.types.size) → DataW.TrodAll enc P W 0 (fun _ => true) true ts vs ds ps → (∀ p ∈ ps, p.block < W.heap.size) → (∀ p ∈ ps, sp p.block = true) → DataW.TrodAll enc P W' 0 sp true ts vs ds ps
  | [], [], [], ps, _, h, _, _ => h
  | t :: ts, v :: vs, d :: ds, ps, ht, h, hlt, hs => by
    obtain ⟨p, q, h1, h2, rfl⟩ := h
    refine ⟨p, q, ?_, trodAll_stays hl hE ts vs ds q (fun u hu => ht u (by simp [hu])) h2 (fun x hx => hlt x (by simp [hx])) (fun x hx => hs x (by simp [hx])), rfl⟩
    exact WideElems.Trod_stays hl (ht t (by simp)).1 (ht t (by simp)).2 h1 (fun x hx => hE.same (hlt x (by simp [hx]))) (fun x hx => hs x (by simp [hx]))
  | [], _ :: _, _, _, _, h, _, _ => by simp [DataW.TrodAll] at h
  | [], [], _ :: _, _, _, h, _, _ => by simp [DataW.TrodAll] at h
  | _ :: _, [], _, _, _, h, _, _ => by simp [DataW.TrodAll] at h
  | _ :: _, _ :: _, [], _, _, h, _, _ => by simp [DataW.TrodAll] at h

/-- 'true, and the arguments read as they did' -/
theorem law_post {f : Func} {s : ChangeSpec} {apart fresh handsOn again : Bool} {W W' : World} {args : Array Value} {ds gs : List (DataW H)} {before : List MemPlace} {t : TypeId}
    (hl : laidOutB P = true) (hr : (f.params.toList.all fun t => P.readableRec t && decide (t < P.types.size)) = true) (hvars : s.vars = []) (hres : f.resultTypes = #[t]) (ht : P.underlying t = some .bool)
    (hfn : s.fn H ds = { results := [.lit (.bool true)], args := ds })
    (hW : DataW.Whole enc P f.params.toList s.vars apart W args.toList ds gs before) (hE : Ext W W') : s.post enc P f apart fresh handsOn again W args (.bool true) W' := by
  have hlt := hW.lt
  obtain ⟨p, q, hA, hV, hpq, _⟩ := id hW
  rw [hvars] at hV
  obtain ⟨rfl, rfl⟩ := trodVars_none hV
  have hfn' : s.fn H (ds ++ []) = { results := [.lit (.bool true)], args := ds } := by rw [List.append_nil]; exact hfn
  have hall : ∀ t ∈ f.params.toList, P.readableRec t = true ∧ t < P.types.size := fun t ht => by simpa using List.all_eq_true.1 hr t ht
  rw [List.append_nil] at hpq
  subst hpq
  have hres' : ∀ b sp hd, DataW.TrodAll enc P W' b sp hd f.resultTypes.toList ((Value.bool true).resultList f.resultTypes.size) (s.fn H (ds ++ [])).results [] := by
    intro b sp hd
    rw [hfn', hres]
    exact trodAll_mk1 (shut_bool ht _)
  have hargs : ∀ sp : Nat → Bool, (∀ x ∈ before, sp x.block = true) → DataW.TrodAll enc P W' 0 sp true f.params.toList args.toList (s.fn H (ds ++ [])).args before := by
    intro sp hsp
    rw [hfn']
    exact trodAll_stays hl hE _ _ _ _ hall hA hlt hsp
  have hvs : ∀ sp : Nat → Bool, DataW.TrodVars enc P W' sp s.vars (s.fn H (ds ++ [])).vars [] := by
    intro sp
    rw [hfn', hvars]
    rfl
  refine ⟨ds, [], before, [], before, [], hW, hres' _ _ _, hargs _ (fun x hx => by simpa using hlt x hx), hvs _, hE.frame _, fun _ => ?_⟩
  refine ⟨ok_one hres rfl (okWide_bool_mk ht _), _, _, ([] ++ before) ++ [], ⟨[] ++ before, [], trodAll_append (hargs _ (fun _ _ => rfl)) (hres' _ _ _), hvs _, rfl, ?_, ?_⟩, ?_⟩
  · intro b off hp
    obtain ⟨_, _, _, _, _, hz, _⟩ := hW
    have hp' : MemPlace.cell b off ∈ before := by simpa using hp
    rw [hE.frozen (hlt _ hp')]
    exact hz b off hp'
  · intro ha
    obtain ⟨_, _, _, _, _, _, hn⟩ := hW
    simpa using hn ha
  · intro p hp _
    simpa using hp

/-- the law's contract from its walk -/
theorem law_contract {f : Func} {n : FuncId} {s : ChangeSpec} {apart fresh handsOn again : Bool} {W : World} {args : Array Value} {ds gs : List (DataW H)} {before : List MemPlace} {t : TypeId}
    (hl : laidOutB P = true) (hr : (f.params.toList.all fun t => P.readableRec t && decide (t < P.types.size)) = true) (hvars : s.vars = []) (hres : f.resultTypes = #[t]) (ht : P.underlying t = some .bool)
    (hfn : s.fn H ds = { results := [.lit (.bool true)], args := ds })
    (hW : DataW.Whole enc P f.params.toList s.vars apart W args.toList ds gs before)
    (hc : Calls P n args W fun e W' => e = .returned (.bool true) ∧ Ext W W') :
    Calls P n args W fun e W' => ∃ v, e = .returned v ∧ s.post enc P f apart fresh handsOn again W args v W' :=
  hc.mono fun _ _ ⟨he, hE⟩ => ⟨_, he, law_post hl hr hvars hres ht hfn hW hE⟩
end
end Go.SX

/- SxX -/
namespace Go.SX
open Go.RowKit

/-- so many rounds of a loop at the most -/
def RoundsK (cx : Cx) (body : Code) (K : Exit → Env → Heap → Asn → Nat → Prop) : Nat → Env → Heap → Asn → Nat → Prop
  | 0, _, _, _, _ => False
  | n + 1, env, H, S, nx => Wp cx body env H S nx (fun e env' H' S' nx' => match e with
      | .normal => RoundsK cx body K n env' H' S' nx'
      | e => K e env' H' S' nx')
theorem Wp.rounds {cx : Cx} {body : Code} {env : Env} {H : Heap} {S : Asn} {nx : Nat} {K : Exit → Env → Heap → Asn → Nat → Prop} (n : Nat) (h : RoundsK cx body K n env H S nx) : Wp cx (.loop body) env H S nx K := by
  refine ⟨fun ρ a w hs hw => wp_loop_rounds n ?_⟩
  have key : ∀ (n : Nat) {env : Env} {H : Heap} {S : Asn} {nx1 : Nat} {ρ1 : Nat → Loc} {a : Act} {w : World}, RoundsK cx body K n env H S nx1 → (∀ i, i < nx → ρ1 i = ρ i) → nx ≤ nx1 → Sat cx.n ρ1 nx1 env a → Abs cx.B ρ1 nx1 H S w →
      Code.rounds cx.P body (fun e a' w' => ∃ ρ' env' H' S' nx', (∀ i, i < nx → ρ' i = ρ i) ∧ nx ≤ nx' ∧ Sat cx.n ρ' nx' env' a' ∧ Abs cx.B ρ' nx' H' S' w' ∧ K e env' H' S' nx') n a w := by
    intro n
    induction n with
    | zero => intro env H S nx1 ρ1 a w h; exact h.elim
    | succ n ih =>
      intro env H S nx1 ρ1 a w h hr hn hs hw
      rw [rounds_succ]
      have h' : Wp cx body env H S nx1 (fun e env' H' S' nx' => match e with
        | .normal => RoundsK cx body K n env' H' S' nx'
        | e => K e env' H' S' nx') := h
      refine wp_mono (h'.out ρ1 a w hs hw) ?_
      rintro e a' w' ⟨ρ', env', H', S', nx', h1, h2, h3, h4, h5⟩
      have hr' : ∀ i, i < nx → ρ' i = ρ i := fun i hi => (h1 i (Nat.lt_of_lt_of_le hi hn)).trans (hr i hi)
      cases e with
      | normal => exact ih h5 hr' (Nat.le_trans hn h2) h3 h4
      | _ => exact ⟨ρ', env', H', S', nx', hr', Nat.le_trans hn h2, h3, h4, h5⟩
  exact key n h (fun _ _ => rfl) (Nat.le_refl _) hs hw
/-- a fact that holds in every world at hand -/
theorem Wp.know {cx : Cx} {c : Code} {env : Env} {H : Heap} {S : Asn} {nx : Nat} {K : Exit → Env → Heap → Asn → Nat → Prop} {p : Prop} (h1 : ∀ ρ w, Abs cx.B ρ nx H S w → p) (h2 : p → Wp cx c env H S nx K) : Wp cx c env H S nx K :=
  ⟨fun ρ a w hs hw => (h2 (h1 ρ w hw)).out ρ a w hs hw⟩

theorem idx_z {base : Option Addr} {len size : Nat} {z : Int} {K : SV → Prop} {a : Addr} (hb : base = some a) (h0 : 0 ≤ z) (h1 : z < len) (h : K (.c (.pointer (some (a.add (z.toNat * size)))))) : idxK base len size z K := by
  rw [idxK_def]; exact ⟨a, hb, h0, h1, h⟩
theorem ro_int {a : Addr} {j : Nat} {S : Asn} {xs : List Int} {K : SV → Prop} (hx : ∀ R w, S.holds R w → RowsI w (some a) 1 (ints xs)) (hj : j < xs.length) (h : K (.c (.int .i64 (xs.getD j 0)))) : roK (a.add (j * 1)) S K :=
  ro_row0 hx [.int .i64 (xs.getD j 0)] (.int .i64 (xs.getD j 0)) (by rw [ints_get hj]; simp [List.getD, hj]) rfl h
theorem slice_full {base : Option Addr} {len cap size : Nat} {K : SV → Prop} (hc : len ≤ cap) (h : K (.c (.slice base len len))) : sliceK base len cap size none (some (len : Int)) (some (len : Int)) K := by
  rw [sliceK_def]
  refine ⟨0, len, len, rfl, rfl, rfl, Nat.zero_le _, Nat.le_refl _, hc, fun _ => rfl, ?_⟩
  have : (if len = 0 then base else base.map (·.add (0 * size))) = base := by
    split
    · rfl
    · cases base <;> simp [Addr.add]
  have e : len - 0 = len := Nat.sub_zero len
  rw [this, e]
  exact h
theorem Abs.grow {B : Base} {ρ : Nat → Loc} {nx : Nat} {H : Heap} {S : Asn} {w w' : World} {D : Asn} (hw : Abs B ρ nx H S w) (he : Ext w w') (hD : D.holds (fun b => w.heap.size ≤ b ∧ b < w'.heap.size) w') : Abs B ρ nx H (S.and (D.past B.w0.heap.size)) w' := by
  obtain ⟨R, φ, hwR⟩ := hw
  have hwR' := hwR.step (Step.of_ext he) (fun _ _ h => h) (fun _ _ _ _ h => h)
  refine ⟨fun b => R b ∨ (w.heap.size ≤ b ∧ b < w'.heap.size), φ, hwR'.os, hwR'.tape, hwR'.output, hwR'.size, hwR'.pin, fun b hb => hb.elim (hwR'.ro b) (fun h => h.2), ⟨S.stable (fun _ h => .inl h) (fun _ _ => rfl) hwR'.asn, ?_⟩, hwR'.key, hwR'.ent, fun p hp b hb hb' => ?_, hwR'.sep⟩
  · exact D.stable (fun b hb => ⟨.inr hb, Nat.le_trans hwR.size hb.1⟩) (fun _ _ => rfl) hD
  · rcases hb' with hb' | hb'
    · exact hwR'.apart p hp b hb hb'
    · have := Ent.size (hwR.ent p hp) hb; omega
/-- a call that hands back data in new memory, which stay -/
theorem call_past {cx : Cx} {f : FuncId} {args : List SV} {H : Heap} {S : Asn} {nx : Nat} {K : SV → Heap → Asn → Nat → Prop} (hf : ∀ ar w, (callFunc f ar).run cx.P w = .ok (.enter f ar) w) {α : Type} (val : α → Value) (D : α → Asn) (p : α → Prop)
    (hc : ∀ ρ w, Abs cx.B ρ nx H S w → Calls cx.P f (SV.rfs ρ args).toArray w (fun e w' => ∃ x, p x ∧ e = .returned (val x) ∧ Ext w w' ∧ (D x).holds (fun b => w.heap.size ≤ b ∧ b < w'.heap.size) w'))
    (h : ∀ x, p x → K (.c (val x)) H (S.and ((D x).past cx.B.w0.heap.size)) nx) : callK cx f args H S nx K := by
  rw [callK_def]
  refine ⟨hf, fun ρ w hw => (hc ρ w hw).mono ?_⟩
  rintro e w' ⟨x, hp, rfl, he, hD⟩
  exact ⟨.c (val x), ρ, H, _, nx, rfl, fun _ _ => rfl, Nat.le_refl _, SV.lt_c _, hw.grow he hD, h x hp⟩
/-- at the end: data of blocks from N on lie in new blocks -/
theorem past_new {B : Base} {ρ : Nat → Loc} {nx : Nat} {H : Heap} {S D : Asn} {w : World} (hw : Abs B ρ nx H S w) (hS : ∀ R w', S.holds R w' → (D.past B.w0.heap.size).holds R w') : D.holds (fun b => B.w0.heap.size ≤ b ∧ b < w.heap.size) w := by
  obtain ⟨R, φ, hw⟩ := hw
  exact D.stable (fun b hb => ⟨hb.2, hw.ro b hb.1⟩) (fun _ _ => rfl) (hS R w hw.asn)
end Go.SX

/- SxY -/
namespace Go.SX
open Go.RowKit

end Go.SX

/- SxZ -/
namespace Go.SX
open Go.RowKit
theorem sep_two {φ : Nat → Nat → Prop} : ∀ {H : Heap}, H.Pairwise (fun p q => p.1 ≠ q.1 ∧ ∀ b, φ p.1 b → ¬ φ q.1 b) → ∀ {p q : Nat × Ent}, p ∈ H → q ∈ H → p.1 ≠ q.1 → ∀ b, φ p.1 b → ¬ φ q.1 b
  | [], _, p, q, hp, _, _, _, _ => by cases hp
  | x :: r, hs, p, q, hp, hq, hne, b, hb => by
    obtain ⟨hx, hr⟩ := List.pairwise_cons.1 hs
    intro hb'
    rcases List.mem_cons.1 hp with gp | gp <;> rcases List.mem_cons.1 hq with gq | gq
    · exact hne (by rw [gp, gq])
    · rw [← gp] at hx; exact (hx _ gq).2 b hb hb'
    · rw [← gq] at hx; exact (hx _ gp).2 b hb' hb
    · exact sep_two hr gp gq hne b hb hb'
end Go.SX

/- SxZa -/
namespace Go.SX
open Go.RowKit

/-- the blocks that were there, but for some -/
def othF (w : World) (F : Nat → Prop) : Nat → Prop := fun x => x < w.heap.size ∧ ¬ F x
/-- all but some blocks stand as they did -/
def restF (w0 : World) (F : Nat → Prop) : Asn where
  holds R w := ∀ x, othF w0 F x → R x ∧ w.heap[x]? = w0.heap[x]?
  stable := fun hR hw h x hx => ⟨hR x (h x hx).1, (hw x (h x hx).1).trans (h x hx).2⟩

/-- at block b: a slice; its rows; F: the blocks of both -/
def SliceAt (T TE : TypeId) (k : Nat) (xs : List (List Value)) (b : Nat) (F : Nat → Prop) (w : World) : Prop :=
  ∃ (v : Loc) (G : Nat → Prop), w.heap[b]? = some (.cells #[.slice v.base xs.length v.cap] T (0, 0)) ∧ (∀ x, F x ↔ x = b ∨ G x) ∧ ¬ G b ∧ (Ent.rows xs k TE).holds (fun _ => v) v G w
theorem SliceAt.stable {T TE : TypeId} {k : Nat} {xs : List (List Value)} {b : Nat} {F : Nat → Prop} {w w' : World} (hf : ∀ x, F x → w'.heap[x]? = w.heap[x]?) (h : SliceAt T TE k xs b F w) : SliceAt T TE k xs b F w' := by
  obtain ⟨v, G, h1, h2, h3, h4⟩ := h
  exact ⟨v, G, by rw [hf b ((h2 b).2 (.inl rfl))]; exact h1, h2, h3, Ent.stable (fun x hx => hf x ((h2 x).2 (.inr hx))) h4⟩
theorem SliceAt.size {T TE : TypeId} {k : Nat} {xs : List (List Value)} {b : Nat} {F : Nat → Prop} {w : World} (h : SliceAt T TE k xs b F w) {x : Nat} (hx : F x) : x < w.heap.size := by
  obtain ⟨v, G, h1, h2, h3, h4⟩ := h
  rcases (h2 x).1 hx with rfl | hx
  · exact lt_size_of_some h1
  · exact Ent.size h4 hx
def sliceO (T TE : TypeId) (k : Nat) (xs : List (List Value)) : Own where
  holds l F w := ∃ b, l.base = some ⟨b, 0, none⟩ ∧ SliceAt T TE k xs b F w
  stable := fun hf ⟨b, h1, h2⟩ => ⟨b, h1, h2.stable hf⟩
  lt := fun ⟨_, _, h⟩ hx => h.size hx

/-- an entry written, its blocks among its own and new ones -/
theorem AbsR.move {B : Base} {R : Nat → Prop} {φ : Nat → Nat → Prop} {ρ : Nat → Loc} {nx : Nat} {H : Heap} {S : Asn} {w w' : World} {i : Nat} {e e' : Ent} (h : AbsR B R φ ρ nx H S w) (hi : (i, e) ∈ H) (hlt : e'.lt nx) {F' : Nat → Prop}
    (hs : Step (φ i) w w') (hF : ∀ y, F' y → φ i y ∨ w.heap.size ≤ y) (he' : e'.holds ρ (ρ i) F' w') : AbsR B R (fun j => if j = i then F' else φ j) ρ nx (setH i e' H) S w' := by
  have hR : ∀ b, R b → ¬ φ i b := fun b hb hb' => h.apart _ hi b hb' hb
  have hk : ((setH i e' H).map (·.1)).Pairwise (· ≠ ·) := by rw [keys_setH]; exact List.pairwise_map.2 (h.sep.imp fun x => x.1)
  have hk' : (setH i e' H).Pairwise fun p q => p.1 ≠ q.1 ∧ True := (List.pairwise_map.1 hk).imp fun x => ⟨x, trivial⟩
  have mem : ∀ p ∈ setH i e' H, p = (i, e') ∨ (p.1 ≠ i ∧ p ∈ H) := by
    intro p hp
    obtain ⟨pi, pe⟩ := p
    by_cases hpi : pi = i
    · subst hpi
      have : pe = e' := keys_unique hk' hp (mem_setH_self hi)
      subst this
      exact .inl rfl
    · rcases mem_setH hp with ⟨h1, _⟩ | h1
      · exact absurd (by simpa using congrArg Prod.fst h1) hpi
      · exact .inr ⟨hpi, h1⟩
  refine ⟨hs.os.trans h.os, hs.tape.trans h.tape, hs.output.trans h.output, Nat.le_trans h.size hs.size, h.pin, fun b hb => Nat.lt_of_lt_of_le (h.ro b hb) hs.size,
    S.stable (fun _ hb => hb) (fun b hb => hs.block b (h.ro b hb) (hR b hb)) h.asn, ?_, ?_, ?_, ?_⟩
  · intro p hp
    rcases mem p hp with rfl | ⟨_, hp⟩
    · exact ⟨(h.key _ hi).1, hlt⟩
    · exact h.key p hp
  · intro p hp
    rcases mem p hp with rfl | ⟨hne, hp⟩
    · simp only [if_true]; exact he'
    · simp only [if_neg hne]
      exact Ent.stable (fun b hb => hs.block b (Ent.size (h.ent p hp) hb) (sep_two h.sep hp hi hne b hb)) (h.ent p hp)
  · intro p hp b hb
    rcases mem p hp with rfl | ⟨hne, hp⟩
    · simp only [if_true] at hb
      rcases hF b hb with hb | hb
      · exact h.apart _ hi b hb
      · intro hRb; have := h.ro b hRb; omega
    · simp only [if_neg hne] at hb
      exact h.apart p hp b hb
  · refine List.Pairwise.imp_of_mem (R := fun p q => p.1 ≠ q.1) (fun {p q} hp hq hpq => ⟨hpq, fun b hb hb' => ?_⟩) (List.pairwise_map.1 hk)
    rcases mem p hp with rfl | ⟨hpn, hp⟩ <;> rcases mem q hq with rfl | ⟨hqn, hq⟩
    · exact hpq rfl
    · simp only [if_true, if_neg hqn] at hb hb'
      rcases hF b hb with hb | hb
      · exact sep_two h.sep hi hq hpq b hb hb'
      · have := Ent.size (h.ent q hq) hb'; omega
    · simp only [if_true, if_neg hpn] at hb hb'
      rcases hF b hb' with hb' | hb'
      · exact sep_two h.sep hp hi hpq b hb hb'
      · have := Ent.size (h.ent p hp) hb; omega
    · simp only [if_neg hpn, if_neg hqn] at hb hb'
      exact sep_two h.sep hp hq hpq b hb hb'

theorem SliceAt.at {T TE : TypeId} {k : Nat} {xs : List (List Value)} {b : Nat} {F : Nat → Prop} {w : World} (h : SliceAt T TE k xs b F w) : F b := by
  obtain ⟨v, G, h1, h2, h3, h4⟩ := h
  exact (h2 b).2 (.inl rfl)
theorem SliceAt.cell {T TE : TypeId} {k : Nat} {xs : List (List Value)} {b : Nat} {F : Nat → Prop} {w : World} (h : SliceAt T TE k xs b F w) : ∃ (v : Loc) (G : Nat → Prop), w.cell? ⟨b, 0, none⟩ = some (.slice v.base xs.length v.cap) ∧ (∀ x, F x ↔ x = b ∨ G x) ∧ ¬ G b ∧ (Ent.rows xs k TE).holds (fun _ => v) v G w := by
  obtain ⟨v, G, h1, h2, h3, h4⟩ := h
  exact ⟨v, G, by simp [World.cell?, h1], h2, h3, h4⟩
/-- a new box of a nil slice is such a slice -/
theorem Wp.slice {cx : Cx} {c : Code} {env : Env} {H1 H2 : Heap} {S : Asn} {nx i : Nat} {K : Exit → Env → Heap → Asn → Nat → Prop} {T : TypeId} (TE : TypeId) (k : Nat) (h : Wp cx c env (H1 ++ (i, .ext (sliceO T TE k [])) :: H2) S nx K) : Wp cx c env (H1 ++ (i, .box [.c (.slice none 0 0)] T) :: H2) S nx K := by
  refine ⟨fun ρ a w hs hw => h.out ρ a w hs ?_⟩
  obtain ⟨R, φ, hw⟩ := hw
  have conv : ∀ {Q : Nat × Ent → Prop}, (∀ p ∈ H1 ++ (i, Ent.box [.c (.slice none 0 0)] T) :: H2, Q p) → Q (i, .ext (sliceO T TE k [])) → ∀ p ∈ H1 ++ (i, Ent.ext (sliceO T TE k [])) :: H2, Q p := by
    intro Q hQ hq p hp
    rcases List.mem_append.1 hp with hp | hp
    · exact hQ p (List.mem_append.2 (.inl hp))
    · rcases List.mem_cons.1 hp with rfl | hp
      · exact hq
      · exact hQ p (List.mem_append.2 (.inr (List.mem_cons_of_mem _ hp)))
  have hm : (i, Ent.box [.c (.slice none 0 0)] T) ∈ H1 ++ (i, Ent.box [.c (.slice none 0 0)] T) :: H2 := by simp
  refine ⟨R, φ, hw.os, hw.tape, hw.output, hw.size, hw.pin, hw.ro, hw.asn, conv hw.key ⟨(hw.key _ hm).1, fun x hx => by simp [Ent.hass] at hx⟩, conv hw.ent ?_, conv hw.apart (fun b hb => hw.apart _ hm b hb), ?_⟩
  · obtain ⟨b, h1, h2, h3⟩ := hw.ent _ hm
    refine ⟨b, h1, ⟨none, 0⟩, fun _ => False, by simpa [SV.rfs, SV.rf] using h3, fun x => by simp [h2 x], fun h => h, by simp, by simp, .inl ⟨rfl, rfl, fun x h => h⟩⟩
  · have e1 : ((H1 ++ (i, Ent.box [.c (.slice none 0 0)] T) :: H2).map Prod.fst).Pairwise (fun a b => a ≠ b ∧ ∀ x, φ a x → ¬ φ b x) := List.pairwise_map.2 hw.sep
    rw [List.map_append, List.map_cons] at e1
    have e2 : (H1 ++ (i, Ent.ext (sliceO T TE k [])) :: H2).map Prod.fst = H1.map Prod.fst ++ i :: H2.map Prod.fst := by rw [List.map_append, List.map_cons]
    have e3 : ((H1 ++ (i, Ent.ext (sliceO T TE k [])) :: H2).map Prod.fst).Pairwise (fun a b => a ≠ b ∧ ∀ x, φ a x → ¬ φ b x) := by rw [e2]; exact e1
    exact List.pairwise_map.1 e3
end Go.SX

/- SxZb -/
namespace Go.SX
open Go.RowKit

def byts (l : List Int) : List (List Value) := l.map fun x => [Value.int .u8 x]
end Go.SX

/- SxZc -/
namespace Go.SX
open Go.RowKit
structure RdV where
  base : Option Addr
  cap : Nat
  bs : List Int
def RdV.val (v : RdV) : Value := .slice v.base v.bs.length v.cap
def bytsD (u : RdV) : Asn := rowsA u.base 1 (byts u.bs)
/-- what is left of some bytes -/
structure Rest (u u' : RdV) : Prop where
  drop : ∃ k, u'.bs = u.bs.drop k
  room : u'.bs.length ≤ u'.cap
  data : ∀ R w, (bytsD u).holds R w → (bytsD u').holds R w
theorem Rest.trans {a b c : RdV} (h : Rest a b) (g : Rest b c) : Rest a c := by
  obtain ⟨⟨k, hk⟩, h2, h3⟩ := h
  obtain ⟨⟨j, hj⟩, g2, g3⟩ := g
  exact ⟨⟨k + j, by rw [hj, hk, List.drop_drop]⟩, g2, fun R w hh => g3 R w (h3 R w hh)⟩
theorem Rest.refl {a : RdV} (h : a.bs.length ≤ a.cap) : Rest a a := ⟨⟨0, rfl⟩, h, fun _ _ h => h⟩
theorem Rest.bytes {u u' : RdV} (h : Rest u u') (hb : ∀ x ∈ u.bs, 0 ≤ x ∧ x ≤ 255) : ∀ x ∈ u'.bs, 0 ≤ x ∧ x ≤ 255 := by
  obtain ⟨⟨k, hk⟩, _, _⟩ := h
  intro x hx
  rw [hk] at hx
  exact hb x (List.mem_of_mem_drop hx)
theorem Rest.len {u u' : RdV} (h : Rest u u') : u'.bs.length ≤ u.bs.length := by
  obtain ⟨⟨k, hk⟩, _, _⟩ := h
  rw [hk, List.length_drop]; omega
end Go.SX

/- SxZd -/
namespace Go.SX
open Go.RowKit
structure doneK (K : SV → Heap → Asn → Nat → Prop) (v : SV) (H : Heap) (S : Asn) (nx : Nat) : Prop where
  out : K v H S nx
theorem done_of {K : SV → Heap → Asn → Nat → Prop} {v : SV} {H : Heap} {S : Asn} {nx : Nat} (h : K v H S nx) : doneK K v H S nx := ⟨h⟩
def inlK (cx : Cx) (rs : List ResultVar) (K : SV → Heap → Asn → Nat → Prop) : Exit → Env → Heap → Asn → Nat → Prop
  | .normal, env, H, S, nx => resK cx env H S (fun l => doneK K (oneOf l) H S nx) rs
  | .ret, env, H, S, nx => resK cx env H S (fun l => doneK K (oneOf l) H S nx) rs
  | _, _, _, _, _ => False
theorem oneOf_lt {nx : Nat} {l : List SV} (h : SV.lts nx l) : (oneOf l).lt nx := by
  match l, h with
  | [], h => exact SV.lt_tup.2 h
  | [v], h => exact SV.lts_iff.1 h v (by simp)
  | a :: b :: r, h => exact SV.lt_tup.2 h
theorem call_inline {P : Program} {B : Base} {n0 : Nat} {tab : List (Nat × TI)} (hok : ∀ p ∈ tab, mkTI P p.1 = some p.2) {f : FuncId} {fn : Func} {c : Code} {n : Nat} {rs : List ResultVar} (hf : P.funcs[f]? = some fn) (hb : fn.body = some c) (hn : fn.ntmps = n) (hrs : fn.results.toList = rs) (hen : ∀ as w, (callFunc f as).run P w = .ok (.enter f as) w)
    {args : List SV} {H : Heap} {S : Asn} {nx : Nat} {K : SV → Heap → Asn → Nat → Prop} (hlt : SV.bnds nx args = true) (hlen : args.length ≤ n) (h : Wp ⟨P, B, n, tab⟩ c (number 0 args) H S nx (inlK ⟨P, B, n, tab⟩ rs K)) : callK ⟨P, B, n0, tab⟩ f args H S nx K := by
  subst hn
  subst hrs
  rw [callK_def]
  refine ⟨hen, fun ρ w hw => ?_⟩
  refine calls_of_wp hf hb ?_
  rw [Wp_def] at h
  refine wp_mono (h ρ _ w ?_ hw) ?_
  · refine ⟨rfl, by simp [rfs_length]; omega, fun t v hv ht => ?_, fun t v hv => ?_⟩
    · obtain ⟨j, rfl, hj⟩ := number_get hv
      have hjl := (List.getElem?_eq_some_iff.1 hj).1
      simp only [Nat.zero_add]
      rw [Array.getElem?_append_left (by simp [rfs_length]; omega)]
      simp [SV.rfs_eq, hj]
    · obtain ⟨j, rfl, hj⟩ := number_get hv
      exact SV.lts_iff.1 (SV.bnds_lt hlt) v (List.mem_of_getElem? hj)
  · rintro e a' w' ⟨ρ', env', H', S', nx', h2, h3, h4, h5, h6⟩
    have fin : ∀ {Q : Prop}, (resK ⟨P, B, fn.ntmps, tab⟩ env' H' S' (fun l => doneK K (oneOf l) H' S' nx') fn.results.toList) → (a'.defers = [] ∧ ∃ v, (results fn a'.tmps).run P w' = .ok v w' ∧ ∃ u ρ'' H'' S'' nx'', Ending.returned v = .returned (u.rf ρ'') ∧ (∀ i, i < nx → ρ'' i = ρ i) ∧ nx ≤ nx'' ∧ u.lt nx'' ∧ Abs B ρ'' nx'' H'' S'' w' ∧ K u H'' S'' nx'') := by
      intro Q h6
      obtain ⟨l, g1, g2, g3⟩ := resK_spec (cx := ⟨P, B, fn.ntmps, tab⟩) hok h4 h5 h6
      refine ⟨h4.defers, _, results_run g3, oneOf l, ρ', H', S', nx', ?_, h2, h3, oneOf_lt g2, h5, g1.out⟩
      rw [oneOf_rf]
    cases e with
    | normal => exact fin (Q := True) h6
    | ret => exact fin (Q := True) h6
    | _ => exact h6.elim
end Go.SX

/- SxZe -/
namespace Go.SX
open Go.RowKit
/-- One's own rows are written no more: from here on they stay. -/
theorem Wp.freezeN {cx : Cx} {c : Code} {env : Env} {H : Heap} {S : Asn} {nx : Nat} {K : Exit → Env → Heap → Asn → Nat → Prop} (i N : Nat) {xs : List (List Value)} {k : Nat} {T : TypeId} (he : (i, Ent.rows xs k T) ∈ H) (hN : ∀ R w, S.holds R w → ∀ b, b < N → R b)
    (h : ∀ l : Loc, xs.length ≤ l.cap → Wp cx c (env.fz i l) (Heap.fz i l (delH i H)) (S.and ((rowsA l.base k xs).past N)) nx K) : Wp cx c env H S nx K := by
  simp only [Wp_def] at *
  intro ρ a w hs hw
  obtain ⟨R, φ, hw⟩ := hw
  have hent := hw.ent _ he
  obtain ⟨hr, hcap, hent'⟩ := hent
  have hdel : ∀ p ∈ delH i H, p.1 ≠ i ∧ ∀ b, φ p.1 b → ¬ φ i b := by
    have : ∀ {H : Heap}, H.Pairwise (fun p q => p.1 ≠ q.1 ∧ ∀ b, φ p.1 b → ¬ φ q.1 b) → ∀ {e : Ent}, (i, e) ∈ H → ∀ p ∈ delH i H, p.1 ≠ i ∧ ∀ b, φ p.1 b → ¬ φ i b := by
      intro H hsep
      induction H with
      | nil => intro e he; cases he
      | cons q r ih =>
        obtain ⟨hq, hr⟩ := List.pairwise_cons.1 hsep
        intro e he p hp
        obtain ⟨qi, qe⟩ := q
        unfold delH at hp
        cases hbq : Nat.beq qi i with
        | true =>
          rw [hbq, cond_true] at hp
          have := Nat.eq_of_beq_eq_true hbq
          subst this
          exact ⟨(hq p hp).1.symm, fun b hb hb' => (hq p hp).2 b hb' hb⟩
        | false =>
          rw [hbq, cond_false] at hp
          have hne := Nat.ne_of_beq_eq_false hbq
          have her : (i, e) ∈ r := (List.mem_cons.1 he).resolve_left (fun g => hne (by simpa using congrArg Prod.fst g.symm))
          rcases List.mem_cons.1 hp with g | g
          · subst g; exact ⟨hne, (hq _ her).2⟩
          · exact ih hr her p g
    exact this hw.sep he
  refine h (ρ i) hcap ρ a w ⟨hs.defers, hs.size, fun t v hv ht => ?_, fun t v hv => ?_⟩ ?_
  · obtain ⟨u, hu, rfl⟩ := Env.get_fz hv
    rw [hs.val t u hu ht, SV.rf_fz]
  · obtain ⟨u, hu, rfl⟩ := Env.get_fz hv
    exact fun x hx => hs.lt t u hu x (SV.has_fz hx)
  · have hsub := hw.drop (delH_sublist i H)
    refine ⟨fun b => R b ∨ φ i b, φ, hw.os, hw.tape, hw.output, hw.size, hw.pin, fun b hb => hb.elim (hw.ro b) (fun hb => Ent.size (hw.ent _ he) hb), ⟨S.stable (fun _ h => .inl h) (fun _ _ => rfl) hw.asn, ?_⟩, ?_, ?_, ?_, ?_⟩
    · refine ⟨hr, ?_⟩
      rcases hent' with ⟨h1, h2, _⟩ | ⟨b, off, c', h1, h2, h3, h4, h5⟩
      · simp only at hcap h2; exact .inl (List.eq_nil_of_length_eq_zero (by omega))
      · exact .inr ⟨b, off, h1, ⟨.inr ((h2 b).2 rfl), Nat.le_of_not_lt fun hb => hw.apart _ he b ((h2 b).2 rfl) (hN R w hw.asn b hb)⟩, fun m r hm j v hj => by have := h5 m r hm j v hj; rw [← Nat.add_assoc]; simpa [World.cell?, h3] using this⟩
    · rw [Heap.fz_eq]
      intro p hp
      obtain ⟨q, hq, rfl⟩ := List.mem_map.1 hp
      refine ⟨(hsub.key q hq).1, fun x hx => ?_⟩
      cases hqe : q.2 with
      | box cs T =>
        rw [hqe] at hx
        have := (hsub.key q hq).2
        rw [hqe] at this
        exact this x (SV.hass_fz hx)
      | rows xs k T => rw [hqe] at hx; simp [Ent.fz, Ent.hass] at hx
      | ext o => rw [hqe] at hx; simp [Ent.fz, Ent.hass] at hx
    · rw [Heap.fz_eq]
      intro p hp
      obtain ⟨q, hq, rfl⟩ := List.mem_map.1 hp
      have := hsub.ent q hq
      dsimp only
      cases hqe : q.2 with
      | box cs T =>
        rw [hqe] at this
        obtain ⟨b, h1, h2, h3⟩ := this
        exact ⟨b, h1, h2, by rw [SV.rfs_fz]; exact h3⟩
      | rows xs k T => rw [hqe] at this; exact this
      | ext o => rw [hqe] at this; exact this
    · rw [Heap.fz_eq]
      intro p hp b hb hb'
      obtain ⟨q, hq, rfl⟩ := List.mem_map.1 hp
      exact hb'.elim (hsub.apart q hq b hb) ((hdel q hq).2 b hb)
    · rw [Heap.fz_eq]
      exact List.pairwise_map.2 hsub.sep
end Go.SX

/- SxZf -/
namespace Go.SX
open Go.RowKit
end Go.SX

/- SxZg -/
namespace Go.SX
open Go.RowKit
end Go.SX

/- SxZh -/
namespace Go.SX
open Go.RowKit
end Go.SX

/- SxZl -/
namespace Go.SX
open Go.RowKit
theorem abs_map {r : Nat} {m : Int → Option Value} {w : World} (h : mapHolds r m w) : Abs ⟨w, []⟩ (fun _ => ⟨none, 0⟩) 1 [(0, .ext (mapO r m))] (restF w (fun x => x = r)) w := by
  refine ⟨othF w (fun x => x = r), fun _ x => x = r, rfl, rfl, rfl, Nat.le_refl _, ?_, fun x hx => hx.1, fun x hx => ⟨hx, rfl⟩, ?_, ?_, ?_, ?_⟩
  · intro p hp; simp at hp
  · intro p hp; simp at hp; subst hp; exact ⟨Nat.lt_succ_self _, fun i hi => by simp [Ent.hass] at hi⟩
  · intro p hp; simp at hp; subst hp; exact ⟨fun _ => Iff.rfl, h⟩
  · intro p hp x hx hR; exact hR.2 hx
  · exact List.pairwise_singleton _ _
theorem map_end {r i : Nat} {m : Int → Option Value} {w w' : World} {ρ : Nat → Loc} {nx : Nat} {H : Heap} {S : Asn} (hw : Abs ⟨w, []⟩ ρ nx H S w') (hS : ∀ R w', S.holds R w' → (restF w (fun x => x = r)).holds R w') (hi : (i, Ent.ext (mapO r m)) ∈ H) : Step (fun x => x = r) w w' ∧ mapHolds r m w' := by
  obtain ⟨R, φ, hw⟩ := hw
  obtain ⟨h1, h2⟩ := hw.ent _ hi
  have hrest := hS R w' hw.asn
  exact ⟨⟨hw.os, hw.tape, hw.output, hw.size, fun x hx hne => (hrest x ⟨hx, hne⟩).2⟩, h2⟩
/-- a cell is not in a map's block -/
theorem cell_map {r : Nat} {m : Int → Option Value} {w w' : World} {a : Addr} {v : Value} {R : Nat → Prop} (h : mapHolds r m w) (hc : w.cell? a = some v) (hr : (restF w (fun x => x = r)).holds R w') : w'.cell? a = some v := by
  have hne : a.block ≠ r := by
    rintro rfl
    obtain ⟨es, clock, h1, _⟩ := h
    unfold World.cell? at hc
    rw [h1] at hc
    simp at hc
  rw [cell_same (hr _ ⟨cell_block hc, hne⟩).2]
  exact hc
theorem rows_map {r : Nat} {m : Int → Option Value} {w w' : World} {R : Nat → Prop} {base : Option Addr} {k : Nat} {xs : List (List Value)} (h : mapHolds r m w) (hx : RowsI w base k xs) (hr : (restF w (fun x => x = r)).holds R w') : RowsI w' base k xs := by
  rcases hx with hx | ⟨a, ha, hx⟩
  · exact .inl hx
  · exact .inr ⟨a, ha, fun i r' hi j v hj => cell_map h (hx i r' hi j v hj) hr⟩
/-- what such a call leaves -/
def MapPost {α : Type} (w : World) (r : Nat) (val : α → Value) (f : α → Int → Option Value) (p : α → Prop) (e : Ending) (w' : World) : Prop :=
  ∃ x, p x ∧ e = .returned (val x) ∧ Step (fun y => y = r) w w' ∧ mapHolds r (f x) w'
theorem call_map {cx : Cx} {f : FuncId} {args : List SV} {H : Heap} {S : Asn} {nx i r : Nat} {m : Int → Option Value} {K : SV → Heap → Asn → Nat → Prop} (hi : (i, Ent.ext (mapO r m)) ∈ H) (hf : ∀ ar w, (callFunc f ar).run cx.P w = .ok (.enter f ar) w)
    {α : Type} (val : α → Value) (g : α → Int → Option Value) (p : α → Prop) (hc : ∀ ρ w, Abs cx.B ρ nx H S w → mapHolds r m w → Calls cx.P f (SV.rfs ρ args).toArray w (MapPost w r val g p))
    (h : ∀ x, p x → setHK i (.ext (mapO r (g x))) (fun H' => K (.c (val x)) H' S nx) H) : callK cx f args H S nx K := by
  rw [callK_def]
  refine ⟨hf, fun ρ w hw => ?_⟩
  have hw0 := hw
  obtain ⟨R, φ, hwR⟩ := hw
  obtain ⟨h1, h2⟩ := hwR.ent _ hi
  refine (hc ρ w hw0 h2).mono ?_
  rintro e w' ⟨x, hp, rfl, hs, hm⟩
  have h' := h x hp
  rw [setHK_eq] at h'
  refine ⟨.c (val x), ρ, _, S, nx, rfl, fun _ _ => rfl, Nat.le_refl _, SV.lt_c _, hw0.store hi (fun y hy => by simp [Ent.hass] at hy) fun F hF => ?_, h'⟩
  exact ⟨⟨hs.os, hs.tape, hs.output, hs.size, fun b hb hne => hs.block b hb fun e => hne ((hF.1 b).2 e)⟩, hF.1, hm⟩
end Go.SX

