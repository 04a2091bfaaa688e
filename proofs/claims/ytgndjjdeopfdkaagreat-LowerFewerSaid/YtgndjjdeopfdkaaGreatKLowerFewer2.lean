import Derived.OrdersHeld
import Derived.ProofKit
import Derived.OpenShut
import Derived.Deep.Slices
import Derived.LoopN
import Derived.Laws.BytesString
import Derived.Laws.Cells
import Derived.Test.YtgndjjdeopfdkaaGreatKLowerFewer1
/- SxS -/
namespace Go.SX
open Go.RowKit

section
variable {P : Program} {ops : Array Oper} {Q : Exit → Act → World → Prop} {md : Region.Mode} {C : World → Prop} {brk : Nat → Bool}

/-- Whatever order is picked from here on; behind each operation that is no breaking one the class holds. -/
def wpAnyE (P : Program) (md : Region.Mode) (ops : Array Oper) (Q : Exit → Act → World → Prop) (C : World → Prop) (brk : Nat → Bool) : Nat → Array Bool → Act → World → Prop
  | 0, listed, a, w => Region.ready md ops listed = [] ∧ Q .normal a w
  | fuel + 1, listed, a, w =>
    (Region.ready md ops listed = [] → Q .normal a w) ∧
    ∀ i ∈ Region.ready md ops listed, wpOp P ops Q i (fun a' w' => (brk i = true ∨ C w') ∧ wpAnyE P md ops Q C brk fuel (listed.setIfInBounds i true) a' w') a w

theorem wpAny_of_E : ∀ (fuel : Nat) (listed : Array Bool) (a : Act) (w : World), wpAnyE P md ops Q C brk fuel listed a w → wpAny P md ops Q fuel listed a w
  | 0, _, _, _, h => h
  | fuel + 1, _, _, _, h => ⟨h.1, fun i hi => wpOp_mono (fun a' w' h' => wpAny_of_E fuel _ a' w' h'.2) (h.2 i hi)⟩

/-- A quiet operation may be taken first, if those that break the class wait for it. -/
theorem wpAnyE_first {i : Nat} {oi : Oper} {v : Value} (hi : ops[i]? = some oi) (hsel : ∀ (j : Nat) (o : Oper) cs b, ops[j]? = some o → o.op ≠ .select cs b)
    (hQ : ∀ c a w, Q (.panic c) (a.put oi.dst v) w → Q (.panic c) a w) (Z : Nat → Bool) (hbrk : ∀ j oj, ops[j]? = some oj → brk j = true → (∃ e ∈ oj.after, Region.binds md e = true ∧ e.on = i) ∨ Z j = true) (hZ : ∀ j oj, ops[j]? = some oj → Z j = true → ∃ e ∈ oj.after, Region.binds md e = true ∧ (e.on = i ∨ Z e.on = true)) :
    ∀ (fuel : Nat) (listed : Array Bool) (a : Act) (w : World), (∀ j, Z j = true → listed.getD j true = false) →
      (∀ j oj, ops[j]? = some oj → j ≠ i → listed.getD j true = false → (∀ e ∈ oj.after, Region.binds md e = true → e.on ≠ i) → oi.apart ops oj = true) →
      i ∈ Region.ready md ops listed → YieldsIf P ops C oi v a → C w →
      wpAnyE P md ops Q C brk fuel (listed.setIfInBounds i true) (a.put oi.dst v) w → wpAnyE P md ops Q C brk (fuel + 1) listed a w := by
  intro fuel
  induction fuel with
  | zero =>
    intro listed a w _ _ hr hy hC H
    refine ⟨fun h => (by rw [h] at hr; cases hr), fun j hj => ?_⟩
    by_cases hji : j = i
    · subst hji; exact hy.wpOp hi hC ⟨.inr hC, H⟩
    · have := ready_mono hj hji
      rw [H.1] at this
      cases this
  | succ fuel ih =>
    intro listed a w hZl hfree hr hy hC H
    refine ⟨fun h => (by rw [h] at hr; cases hr), fun j hj => ?_⟩
    by_cases hji : j = i
    · subst hji; exact hy.wpOp hi hC ⟨.inr hC, H⟩
    · obtain ⟨hjun, oj, hoj, hall⟩ := mem_ready.1 hj
      have hunl : listed.getD i true = false := (mem_ready.1 hr).1
      have hnot : ∀ e ∈ oj.after, Region.binds md e = true → e.on ≠ i := fun e he hb heq => by
        have h1 := hall e he hb
        rw [heq] at h1
        rcases Nat.lt_or_ge i listed.size with h' | h'
        · simp [h'] at hunl h1; rw [hunl] at h1; cases h1
        · simp [Array.getElem?_eq_none h'] at h1
      have hnZ : Z j = false := by
        cases hz : Z j with
        | false => rfl
        | true =>
          obtain ⟨e, he, hb1, hb2⟩ := hZ j oj hoj hz
          rcases hb2 with hb2 | hb2
          · exact absurd hb2 (hnot e he hb1)
          · have h1 := hall e he hb1
            have h2 := hZl _ hb2
            rcases Nat.lt_or_ge e.on listed.size with h' | h'
            · simp [h'] at h2 h1; rw [h2] at h1; cases h1
            · simp [Array.getElem?_eq_none h'] at h1
      have hnb : brk j = false := by
        cases hb : brk j with
        | false => rfl
        | true =>
          rcases hbrk j oj hoj hb with ⟨e, he, hb1, hb2⟩ | hz
          · exact absurd hb2 (hnot e he hb1)
          · rw [hnZ] at hz; cases hz
      have hZl' : ∀ k, Z k = true → (listed.setIfInBounds j true).getD k true = false := fun k hk => by
        have hjk : j ≠ k := fun e => by rw [← e, hnZ] at hk; cases hk
        rw [getD_set_ne true hjk]
        exact hZl k hk
      have hap := hfree j oj hoj hji hjun hnot
      have hfree' : ∀ k ok, ops[k]? = some ok → k ≠ i → (listed.setIfInBounds j true).getD k true = false →
          (∀ e ∈ ok.after, Region.binds md e = true → e.on ≠ i) → oi.apart ops ok = true := fun k ok hk hki hun hno => by
        refine hfree k ok hk hki ?_ hno
        by_cases hjk : j = k
        · subst hjk; exact hjun
        · rw [getD_set_ne true hjk] at hun; exact hun
      have h1 := H.2 j (ready_mono hj hji)
      have h2 := wpOp_putIf hoj hap (fun cs b => hsel i oi cs b hi) (fun cs b => hsel j oj cs b hoj) hQ hy h1
      refine wpOp_mono (fun a' w' h3 => ?_) h2
      have hC' : C w' := h3.2.1.resolve_left (by simp [hnb])
      refine ⟨.inr hC', ih (listed.setIfInBounds j true) a' w' hZl' hfree' (ready_mono hr (Ne.symm hji)) h3.1 hC' ?_⟩
      rw [Array.setIfInBounds_comm _ _ hji]
      exact h3.2.2
end

/-- The orders that are looked at: take: a quiet operation first; one: the only one that may come up; alt: it comes up, or those behind do. -/
inductive DT where
  | done
  | take (i : Nat) (t : DT)
  | one (i : Nat) (t : DT)
  | alt (i : Nat) (t r : DT)

def DT.noTake : DT → Bool
  | .done => true
  | .take _ _ => false
  | .one _ t => t.noTake
  | .alt _ t r => t.noTake && r.noTake
def DT.picks : DT → List Nat
  | .one i _ => [i]
  | .alt i _ r => i :: r.picks
  | _ => []
def DT.deep : DT → Nat → Bool
  | .done, _ => true
  | .take _ t, n => (match n with | 0 => false | n + 1 => t.deep n)
  | .one _ t, n => (match n with | 0 => false | n + 1 => t.deep n)
  | .alt _ t r, n => (match n with | 0 => false | n' + 1 => t.deep n') && r.deep n
def memB (i : Nat) : List Nat → Bool
  | [] => false
  | j :: r => bif Nat.beq j i then true else memB i r
/-- Does it fit the region? -/
def waitsOn (ops : Array Oper) (j i : Nat) : Bool := match ops[j]? with | some oj => oj.after.any (fun e => Region.binds .any e && e.on == i) | none => true
/-- those that wait for it, through others too -/
def waiters (ops : Array Oper) (i : Nat) : Nat → List Nat → List Nat
  | 0, Z => Z
  | f + 1, Z => waiters ops i f (Z ++ (List.range ops.size).filter fun k => !memB k Z && (i :: Z).any fun x => waitsOn ops k x)
def brkT (ops : Array Oper) (brk : List Nat) (listed : Array Bool) (i : Nat) (Z : List Nat) : Bool :=
  (brk.all fun j => memB j Z) && Z.all fun k => !(listed.getD k true) && (i :: Z).any fun x => waitsOn ops k x
def DT.ok (ops : Array Oper) (brk : List Nat) : DT → Array Bool → Bool → Bool
  | .done, listed, top => top && (Region.ready .any ops listed).isEmpty
  | .take i t, listed, top => top && (Region.free .any ops listed i && (Region.ready .any ops listed).contains i && ((brk.all fun j => waitsOn ops j i) || brkT ops brk listed i (waiters ops i ops.size [])) && t.ok ops brk (listed.setIfInBounds i true) true)
  | .one i t, listed, top => (!top || Region.ready .any ops listed == [i]) && (t.ok ops brk (listed.setIfInBounds i true) true && (bif memB i brk then t.noTake else true))
  | .alt i t r, listed, top => (!top || Region.ready .any ops listed == i :: r.picks) && (t.ok ops brk (listed.setIfInBounds i true) true && (bif memB i brk then t.noTake else true)) && r.ok ops brk listed false

/-- the number of an operation -/
def nthOp (K : Oper → Prop) : List Oper → Nat → Prop
  | [], _ => False
  | o :: r, n => bif Nat.beq n 0 then K o else nthOp K r (Nat.pred n)
theorem nthOp_spec {K : Oper → Prop} : ∀ {l : List Oper} {n : Nat}, nthOp K l n → ∃ o, l[n]? = some o ∧ K o
  | [], _, h => h.elim
  | o :: r, n, h => by
    unfold nthOp at h
    cases n with
    | zero => exact ⟨o, rfl, h⟩
    | succ n => obtain ⟨u, h1, h2⟩ := nthOp_spec (l := r) (n := n) h; exact ⟨u, by simpa using h1, h2⟩
/-- behind an operation that is no breaking one the region's own class holds -/
structure keepK (Hq : Heap) (S0 : Asn) (H : Heap) (S : Asn) (K : Prop) : Prop where
  out : (Hq.Sublist H ∧ ∀ R w, S.holds R w → S0.holds R w) ∧ K
theorem keepK_def {Hq : Heap} {S0 : Asn} {H : Heap} {S : Asn} {K : Prop} : keepK Hq S0 H S K = ((Hq.Sublist H ∧ ∀ R w, S.holds R w → S0.holds R w) ∧ K) := propext ⟨fun h => h.out, fun h => ⟨h⟩⟩
theorem keep_of {Hq : Heap} {S0 : Asn} {H : Heap} {S : Asn} {K : Prop} (h1 : Hq.Sublist H) (h2 : ∀ R w, S.holds R w → S0.holds R w) (h : K) : keepK Hq S0 H S K := by rw [keepK_def]; exact ⟨⟨h1, h2⟩, h⟩

theorem keepA {Hq : Heap} {S0 : Asn} {H : Heap} {S : Asn} {K : Prop} (h : K) (h1 : Hq.Sublist H := by first | exact List.Sublist.refl _ | exact List.Sublist.cons _ (List.Sublist.refl _) | exact List.Sublist.cons _ (List.Sublist.cons _ (List.Sublist.refl _)) | exact List.Sublist.cons _ (List.Sublist.cons _ (List.Sublist.cons _ (List.Sublist.refl _))))
    (h2 : ∀ R w, S.holds R w → S0.holds R w := by first | exact (fun _ _ h => h) | exact (fun _ _ h => h.1) | exact (fun _ _ h => h.1.1)) : keepK Hq S0 H S K := keep_of h1 h2 h
theorem keepB {Hq : Heap} {S0 : Asn} {H : Heap} {S : Asn} {K : Prop} (h : K) (h1 : Hq.Sublist H := by repeat (first | exact List.Sublist.refl _ | exact List.nil_sublist _ | apply List.Sublist.cons_cons | apply List.Sublist.cons))
    (h2 : ∀ R w, S.holds R w → S0.holds R w := by first | exact (fun _ _ h => h) | exact (fun _ _ h => h.1) | exact (fun _ _ h => h.1.1)) : keepK Hq S0 H S K := keep_of h1 h2 h
theorem leA {m n : Nat} {K : Prop} (hk : K) (h : m ≤ n := by first | exact Nat.le_refl _ | omega) : leK m n K := le_of h hk
theorem roomA {m n : Nat} {K : Prop} (hk : K) (h : m * n ≤ 140737488355328 := by first | omega | (dsimp only; omega)) : roomK m n K := room_of h hk
theorem ltA {m n : Nat} {K : Prop} (hk : K) (h : m < n := by omega) : ltK m n K := lt_of h hk
theorem wrapA {z : Int} {K : Int → Prop} (h : K z) (h1 : -9223372036854775808 ≤ z := by omega) (h2 : z ≤ 9223372036854775807 := by omega) : wrapK .i64 z K := wrap_i64 h1 h2 h
theorem cmpY {p : Prop} [Decidable p] {K : Bool → Prop} (h : K true) (hp : p := by omega) : cmpK p K := cmp_yes hp h
theorem cmpN {p : Prop} [Decidable p] {K : Bool → Prop} (h : K false) (hp : ¬ p := by omega) : cmpK p K := cmp_no hp h

/-- one that is picked -/
def pickW (cx : Cx) (ops : List Oper) (brk : List Nat) (Hq : Heap) (S0 : Asn) (i : Nat) (D : Env → Heap → Asn → Nat → Prop) (env : Env) (H : Heap) (S : Asn) (nx : Nat) : Prop :=
  nthOp (fun o => guardK cx.n ops o.guard env (fun b => match b with
      | true => opE cx o.op env H S nx (fun v H' S' nx' => putEK env o.dst v fun env' => bif memB i brk then D env' H' S' nx' else keepK Hq S0 H' S' (D env' H' S' nx'))
      | false => putEK env o.dst (.c undef) fun env' => bif memB i brk then D env' H S nx else keepK Hq S0 H S (D env' H S nx))) ops i
def drawW (cx : Cx) (ops : List Oper) (brk : List Nat) (Hq : Heap) (S0 : Asn) (K : Env → Heap → Asn → Nat → Prop) : DT → Env → Heap → Asn → Nat → Prop
  | .done, env, H, S, nx => K env H S nx
  | .take i t, env, H, S, nx => nthOp (fun o => guardK cx.n ops o.guard env (fun b => match b with
      | true => opQ cx o.op env Hq S0 (fun v => putEK env o.dst v fun env' => drawW cx ops brk Hq S0 K t env' H S nx)
      | false => putEK env o.dst (.c undef) fun env' => drawW cx ops brk Hq S0 K t env' H S nx)) ops i
  | .one i t, env, H, S, nx => pickW cx ops brk Hq S0 i (drawW cx ops brk Hq S0 K t) env H S nx
  | .alt i t r, env, H, S, nx => pickW cx ops brk Hq S0 i (drawW cx ops brk Hq S0 K t) env H S nx ∧ drawW cx ops brk Hq S0 K r env H S nx

theorem Abs.lift {B : Base} {ρ0 ρ : Nat → Loc} {nx0 nx : Nat} {H : Heap} {S : Asn} {w : World} (h : Abs B ρ0 nx0 H S w) (hr : ∀ i, i < nx0 → ρ i = ρ0 i) (hn : nx0 ≤ nx) : Abs B ρ nx H S w := by
  obtain ⟨R, φ, h⟩ := h
  refine ⟨R, φ, h.os, h.tape, h.output, h.size, fun p hp => ⟨Nat.lt_of_lt_of_le (h.pin p hp).1 hn, (hr _ (h.pin p hp).1).trans (h.pin p hp).2⟩, h.ro, h.asn, fun p hp => ⟨Nat.lt_of_lt_of_le (h.key p hp).1 hn, (h.key p hp).2.mono hn⟩, fun p hp => ?_, h.apart, h.sep⟩
  rw [hr _ (h.key p hp).1]
  exact Ent.holds_congr (fun i hi => (hr i ((h.key p hp).2 i hi)).symm) (h.ent p hp)
theorem Abs.lower {B : Base} {ρ0 ρ : Nat → Loc} {nx0 nx : Nat} {H : Heap} {S : Asn} {w : World} (h : Abs B ρ nx H S w) (hr : ∀ i, i < nx0 → ρ i = ρ0 i) (hk : ∀ p ∈ H, p.1 < nx0 ∧ p.2.lt nx0) (hp : ∀ p ∈ B.pin, p.1 < nx0) : Abs B ρ0 nx0 H S w := by
  obtain ⟨R, φ, h⟩ := h
  refine ⟨R, φ, h.os, h.tape, h.output, h.size, fun p hp' => ⟨hp p hp', (hr _ (hp p hp')).symm.trans (h.pin p hp').2⟩, h.ro, h.asn, hk, fun p hp' => ?_, h.apart, h.sep⟩
  rw [← hr _ (hk p hp').1]
  exact Ent.holds_congr (fun i hi => hr i ((hk p hp').2 i hi)) (h.ent p hp')

theorem Abs.sub {B : Base} {ρ : Nat → Loc} {nx : Nat} {H H2 : Heap} {S S2 : Asn} {w : World} (h : Abs B ρ nx H S w) (hH : H2.Sublist H) (hS : ∀ R w, S.holds R w → S2.holds R w) : Abs B ρ nx H2 S2 w := by
  obtain ⟨R, φ, hw⟩ := h
  have hw := hw.drop hH
  exact ⟨R, φ, ⟨hw.os, hw.tape, hw.output, hw.size, hw.pin, hw.ro, hS R w hw.asn, hw.key, hw.ent, hw.apart, hw.sep⟩⟩

section
variable {cx : Cx} (hok : ∀ p ∈ cx.tab, mkTI cx.P p.1 = some p.2) {ops : Array Oper} {brk : List Nat} {Hq : Heap} {S0 : Asn} {K : Env → Heap → Asn → Nat → Prop} {ρ0 : Nat → Loc} {nx0 : Nat} {Q : Exit → Act → World → Prop}
  (hsel : Region.noSelect ops = true) (hQ : ∀ c a a' w, Q (.panic c) a w → Q (.panic c) a' w) (hk : ∀ p ∈ Hq, p.1 < nx0 ∧ p.2.lt nx0) (hpin : ∀ p ∈ cx.B.pin, p.1 < nx0)
  (hfin : ∀ ρ' a' env' H' S' nx' w', (∀ i, i < nx0 → ρ' i = ρ0 i) → nx0 ≤ nx' → Sat cx.n ρ' nx' env' a' → Abs cx.B ρ' nx' H' S' w' → K env' H' S' nx' → Q .normal a' w')

include hok hk hpin in
/-- one that is picked: by what comes behind it -/
theorem pick_sound {i : Nat} {t : DT} {D : Env → Heap → Asn → Nat → Prop} {env : Env} {H : Heap} {S : Asn} {nx : Nat} {ρ : Nat → Loc} {a : Act} {w : World} {listed : Array Bool} {fuel : Nat}
    (h : pickW cx ops.toList brk Hq S0 i D env H S nx) (hnt : (bif memB i brk then t.noTake else true) = true) (hC : t.noTake = true ∨ Abs cx.B ρ0 nx0 Hq S0 w) (hs : Sat cx.n ρ nx env a) (hw : Abs cx.B ρ nx H S w) (hr : ∀ i, i < nx0 → ρ i = ρ0 i) (hn : nx0 ≤ nx)
    (ih : ∀ {env : Env} {H : Heap} {S : Asn} {nx : Nat} {ρ : Nat → Loc} {a : Act} {w : World}, D env H S nx → (t.noTake = true ∨ Abs cx.B ρ0 nx0 Hq S0 w) → Sat cx.n ρ nx env a → Abs cx.B ρ nx H S w → (∀ i, i < nx0 → ρ i = ρ0 i) → nx0 ≤ nx →
      wpAnyE cx.P .any ops Q (fun w => Abs cx.B ρ0 nx0 Hq S0 w) (fun i => memB i brk) fuel (listed.setIfInBounds i true) a w) :
    wpOp cx.P ops Q i (fun a' w' => (memB i brk = true ∨ Abs cx.B ρ0 nx0 Hq S0 w') ∧ wpAnyE cx.P .any ops Q (fun w => Abs cx.B ρ0 nx0 Hq S0 w) (fun i => memB i brk) fuel (listed.setIfInBounds i true) a' w') a w := by
  unfold pickW at h
  obtain ⟨o, ho, hh⟩ := nthOp_spec h
  rw [Array.getElem?_toList] at ho
  have hh := guardK_spec hs hh
  unfold wpOp
  rw [ho]
  dsimp only
  cases hwt : Region.wanted o (yielded ops a.tmps) with
  | true =>
    rw [hwt] at hh
    dsimp only at hh
    rw [if_pos rfl]
    refine .inl (opE_sound hok hh hs hw ?_)
    intro v ρ' H' S' nx' w' h1 h2 h3 h4 h5
    rw [putEK_eq] at h5
    have hr' : ∀ j, j < nx0 → ρ' j = ρ0 j := fun j hj => (h1 j (Nat.lt_of_lt_of_le hj hn)).trans (hr j hj)
    cases hb : memB i brk with
    | true =>
      rw [hb, cond_true] at h5
      rw [hb, cond_true] at hnt
      exact ⟨.inl rfl, ih h5 (.inl hnt) (hs.put h1 h2 h3) h4 hr' (Nat.le_trans hn h2)⟩
    | false =>
      rw [hb, cond_false] at h5
      rw [keepK_def] at h5
      have hc : Abs cx.B ρ0 nx0 Hq S0 w' := (h4.sub h5.1.1 h5.1.2).lower hr' hk hpin
      exact ⟨.inr hc, ih h5.2 (.inr hc) (hs.put h1 h2 h3) h4 hr' (Nat.le_trans hn h2)⟩
  | false =>
    rw [hwt] at hh
    dsimp only at hh
    rw [if_neg (by simp)]
    have hp := hs.put (ρ' := ρ) (nx' := nx) (d := o.dst) (v := .c undef) (fun _ _ => rfl) (Nat.le_refl _) (SV.lt_c _)
    rw [putEK_eq] at hh
    cases hb : memB i brk with
    | true =>
      rw [hb, cond_true] at hh
      rw [hb, cond_true] at hnt
      exact ⟨.inl rfl, ih hh (.inl hnt) hp hw hr hn⟩
    | false =>
      rw [hb, cond_false] at hh
      rw [keepK_def] at hh
      have hc : Abs cx.B ρ0 nx0 Hq S0 w := (hw.sub hh.1.1 hh.1.2).lower hr hk hpin
      exact ⟨.inr hc, ih hh.2 (.inr hc) hp hw hr hn⟩

/-- what is shown of a tree: from its top, or of each that it picks -/
def Shown (cx : Cx) (ops : Array Oper) (brk : List Nat) (Hq : Heap) (S0 : Asn) (ρ0 : Nat → Loc) (nx0 : Nat) (Q : Exit → Act → World → Prop) (t : DT) (listed : Array Bool) (fuel : Nat) (a : Act) (w : World) : Bool → Prop
  | true => wpAnyE cx.P .any ops Q (fun w => Abs cx.B ρ0 nx0 Hq S0 w) (fun i => memB i brk) fuel listed a w
  | false => ∃ n, fuel = n + 1 ∧ ∀ i ∈ t.picks, wpOp cx.P ops Q i (fun a' w' => (memB i brk = true ∨ Abs cx.B ρ0 nx0 Hq S0 w') ∧ wpAnyE cx.P .any ops Q (fun w => Abs cx.B ρ0 nx0 Hq S0 w) (fun i => memB i brk) n (listed.setIfInBounds i true) a' w') a w
theorem Shown.top {t : DT} {listed : Array Bool} {fuel : Nat} {a : Act} {w : World} {top : Bool} (hp : top = true → Region.ready .any ops listed = t.picks ∧ t.picks ≠ [])
    (h : Shown cx ops brk Hq S0 ρ0 nx0 Q t listed fuel a w false) : Shown cx ops brk Hq S0 ρ0 nx0 Q t listed fuel a w top := by
  cases top with
  | false => exact h
  | true =>
    obtain ⟨h1, h2⟩ := hp rfl
    obtain ⟨n, rfl, h⟩ := h
    refine ⟨fun h0 => absurd (h1.symm.trans h0) h2, ?_⟩
    rw [h1]
    exact h

include hok hsel hQ hk hpin hfin in
theorem drawW_sound : ∀ {t : DT} {env : Env} {H : Heap} {S : Asn} {nx : Nat} {ρ : Nat → Loc} {a : Act} {w : World} {listed : Array Bool} {fuel : Nat} {top : Bool},
    drawW cx ops.toList brk Hq S0 K t env H S nx → t.ok ops brk listed top = true → t.deep fuel = true → (t.noTake = true ∨ Abs cx.B ρ0 nx0 Hq S0 w) → Sat cx.n ρ nx env a → Abs cx.B ρ nx H S w → (∀ i, i < nx0 → ρ i = ρ0 i) → nx0 ≤ nx →
    Shown cx ops brk Hq S0 ρ0 nx0 Q t listed fuel a w top
  | .done, env, H, S, nx, ρ, a, w, listed, fuel, top, h, hok', _, _, hs, hw, hr, hn => by
    simp only [DT.ok, List.isEmpty_iff, Bool.and_eq_true] at hok'
    obtain ⟨rfl, hok'⟩ := hok'
    have hq := hfin ρ a env H S nx w hr hn hs hw h
    cases fuel with
    | zero => exact ⟨hok', hq⟩
    | succ fuel => exact ⟨fun _ => hq, by rw [hok']; simp⟩
  | .take i t, env, H, S, nx, ρ, a, w, listed, fuel, top, h, hok', hd, hC, hs, hw, hr, hn => by
    have hC := hC.resolve_left (by simp [DT.noTake])
    simp only [DT.ok, Bool.and_eq_true, List.all_eq_true] at hok'
    obtain ⟨rfl, ⟨⟨hf, hrd⟩, hb⟩, hok'⟩ := hok'
    cases fuel with
    | zero => simp [DT.deep] at hd
    | succ fuel =>
    simp only [DT.deep] at hd
    unfold drawW at h
    obtain ⟨o, ho, h⟩ := nthOp_spec h
    rw [Array.getElem?_toList] at ho
    have h := guardK_spec hs h
    have hmem : ∀ {j : Nat} {l : List Nat}, memB j l = true → j ∈ l := by
      intro j l
      induction l with
      | nil => intro h; simp [memB] at h
      | cons x r ih =>
        intro h
        unfold memB at h
        cases hx : Nat.beq x j with
        | true => have := Nat.eq_of_beq_eq_true hx; subst this; simp
        | false => rw [hx] at h; exact List.mem_cons_of_mem _ (ih h)
    have hmem' : ∀ {j : Nat} {l : List Nat}, j ∈ l → memB j l = true := by
      intro j l
      induction l with
      | nil => intro h; cases h
      | cons x r ih =>
        intro h
        unfold memB
        cases hx : Nat.beq x j with
        | true => rfl
        | false => exact ih ((List.mem_cons.1 h).resolve_left fun e => by rw [e] at hx; simp at hx)
    have hedge : ∀ (j : Nat) oj x, ops[j]? = some oj → waitsOn ops j x = true → ∃ e ∈ oj.after, Region.binds .any e = true ∧ e.on = x := by
      intro j oj x hoj this
      unfold waitsOn at this
      rw [hoj] at this
      obtain ⟨e, he, hb'⟩ := Array.any_eq_true'.1 this
      simp only [Bool.and_eq_true, beq_iff_eq] at hb'
      exact ⟨e, he, hb'.1, hb'.2⟩
    obtain ⟨Z, hbrk, hZ, hZl⟩ : ∃ Z : Nat → Bool, (∀ j oj, ops[j]? = some oj → memB j brk = true → (∃ e ∈ oj.after, Region.binds .any e = true ∧ e.on = i) ∨ Z j = true) ∧ (∀ j oj, ops[j]? = some oj → Z j = true → ∃ e ∈ oj.after, Region.binds .any e = true ∧ (e.on = i ∨ Z e.on = true)) ∧ (∀ j, Z j = true → listed.getD j true = false) := by
      rcases (by simpa [Bool.or_eq_true] using hb : (∀ j ∈ brk, waitsOn ops j i = true) ∨ brkT ops brk listed i (waiters ops i ops.size []) = true) with hb | hb
      · exact ⟨fun _ => false, fun j oj hoj hj => .inl (hedge j oj i hoj (hb j (hmem hj))), fun j oj _ h => (by cases h), fun j h => (by cases h)⟩
      · obtain ⟨L, hL⟩ : ∃ L, L = waiters ops i ops.size [] := ⟨_, rfl⟩
        rw [← hL] at hb
        unfold brkT at hb
        simp only [Bool.and_eq_true, List.all_eq_true, Bool.not_eq_true'] at hb
        obtain ⟨hb1, hb2⟩ := hb
        refine ⟨fun j => memB j L, fun j oj hoj hj => .inr (hb1 j (hmem hj)), fun j oj hoj hj => ?_, fun j hj => (hb2 j (hmem hj)).1⟩
        obtain ⟨x, hx, hw'⟩ := List.any_eq_true.1 (hb2 j (hmem hj)).2
        obtain ⟨e, h1, h2, h3⟩ := hedge j oj x hoj hw'
        refine ⟨e, h1, h2, ?_⟩
        rcases List.mem_cons.1 hx with hx | hx
        · exact .inl (h3.trans hx)
        · exact .inr (by rw [h3]; exact hmem' hx)
    have go : ∀ v : SV, v.lt nx → YieldsIf cx.P ops (fun w => Abs cx.B ρ0 nx0 Hq S0 w) o (v.rf ρ) a → drawW cx ops.toList brk Hq S0 K t (putE env o.dst v) H S nx →
        wpAnyE cx.P .any ops Q (fun w => Abs cx.B ρ0 nx0 Hq S0 w) (fun i => memB i brk) (fuel + 1) listed a w := by
      intro v hv hy h
      exact wpAnyE_first ho (Region.noSelect_spec hsel) (fun c a w hq => hQ c _ _ w hq) Z hbrk hZ fuel listed a w hZl (Region.free_spec ho hf) (by simpa using hrd) hy hC
        (drawW_sound (top := true) h hok' hd (.inr hC) (hs.put (fun _ _ => rfl) (Nat.le_refl _) hv) hw hr hn)
    cases hwt : Region.wanted o (yielded ops a.tmps) with
    | true =>
      rw [hwt] at h
      dsimp only at h
      obtain ⟨v, h1, h2, h3⟩ := opQ_sound hok hs (hC.lift hr hn) h
      rw [putEK_eq] at h2
      exact go v h1 (.inl ⟨hwt, fun w' hw' => h3 w' (hw'.lift hr hn)⟩) h2
    | false =>
      rw [hwt] at h
      dsimp only at h
      rw [putEK_eq] at h
      exact go (.c undef) (SV.lt_c _) (.inr ⟨hwt, rfl⟩) h
  | .one i t, env, H, S, nx, ρ, a, w, listed, fuel, top, h, hok', hd, hC, hs, hw, hr, hn => by
    simp only [DT.ok, Bool.and_eq_true, Bool.or_eq_true, Bool.not_eq_true', beq_iff_eq] at hok'
    obtain ⟨hrd, hok1, hnt⟩ := hok'
    cases fuel with
    | zero => simp [DT.deep] at hd
    | succ fuel =>
    simp only [DT.deep] at hd
    unfold drawW at h
    refine Shown.top (fun ht => ⟨hrd.resolve_left (by simp [ht]), by simp [DT.picks]⟩) ⟨fuel, rfl, fun i' hi' => ?_⟩
    obtain rfl : i' = i := by simpa [DT.picks] using hi'
    exact pick_sound hok hk hpin h hnt (by simpa only [DT.noTake] using hC) hs hw hr hn fun g1 g2 g3 g4 g5 g6 => drawW_sound (top := true) g1 hok1 hd g2 g3 g4 g5 g6
  | .alt i t r, env, H, S, nx, ρ, a, w, listed, fuel, top, h, hok', hd, hC, hs, hw, hr, hn => by
    simp only [DT.ok, Bool.and_eq_true, Bool.or_eq_true, Bool.not_eq_true', beq_iff_eq] at hok'
    obtain ⟨⟨hrd, hok1, hnt⟩, hok2⟩ := hok'
    cases fuel with
    | zero => simp [DT.deep] at hd
    | succ fuel =>
    simp only [DT.deep, Bool.and_eq_true] at hd
    unfold drawW at h
    have hC1 : t.noTake = true ∨ Abs cx.B ρ0 nx0 Hq S0 w := hC.elim (fun g => by simp only [DT.noTake, Bool.and_eq_true] at g; exact .inl g.1) .inr
    have hC2 : r.noTake = true ∨ Abs cx.B ρ0 nx0 Hq S0 w := hC.elim (fun g => by simp only [DT.noTake, Bool.and_eq_true] at g; exact .inl g.2) .inr
    refine Shown.top (fun ht => ⟨hrd.resolve_left (by simp [ht]), by simp [DT.picks]⟩) ⟨fuel, rfl, fun i' hi' => ?_⟩
    simp only [DT.picks, List.mem_cons] at hi'
    rcases hi' with rfl | hi'
    · exact pick_sound hok hk hpin h.1 hnt hC1 hs hw hr hn fun g1 g2 g3 g4 g5 g6 => drawW_sound (top := true) g1 hok1 hd.1 g2 g3 g4 g5 g6
    · obtain ⟨n, e, hh⟩ := drawW_sound (top := false) h.2 hok2 hd.2 hC2 hs hw hr hn
      obtain rfl : fuel = n := by omega
      exact hh i' hi'
end

/-- A REGION THAT DRAWS, BY THE ORDERS OF A TREE. Hq: the entries that it reads. -/
theorem draw_tree {cx : Cx} (hok : ∀ p ∈ cx.tab, mkTI cx.P p.1 = some p.2) (hm : cx.P.follows .mixedOrders = true) {id : Nat} {ops : Array Oper} {env : Env} {H : Heap} {S : Asn} {nx : Nat} {K : Env → Heap → Asn → Nat → Prop} (brk : List Nat) (Hq : Heap) (t : DT)
    (hsel : Region.noSelect ops = true) (ht : t.ok ops brk (Array.replicate ops.size false) true = true) (hd : t.deep ops.size = true) (hH : Hq.Sublist H) (h : drawW cx ops.toList brk Hq S K t env H S nx) : drawK cx id ops env H S nx K := by
  rw [drawK_def, Wp_def]
  intro ρ a w hs hw
  refine wp_region_any hm (wpAny_of_E (C := fun w => Abs cx.B ρ nx Hq S w) (brk := fun i => memB i brk) _ _ _ _ ?_)
  have hw' := hw.drew
  have hkeys : (∀ p ∈ Hq, p.1 < nx ∧ p.2.lt nx) ∧ ∀ p ∈ cx.B.pin, p.1 < nx := by
    obtain ⟨R, φ, hw⟩ := hw
    exact ⟨fun p hp => hw.key p (hH.subset hp), fun p hp => (hw.pin p hp).1⟩
  refine drawW_sound (top := true) (ρ0 := ρ) (nx0 := nx) hok hsel ?_ hkeys.1 hkeys.2 ?_ h ht hd (.inr (hw'.sub hH (fun _ _ h => h))) hs hw' (fun _ _ => rfl) (Nat.le_refl _)
  · rintro c a a' w ⟨ρ', env', H', S', nx', _, _, _, _, h6, _⟩
    cases h6
  · intro ρ' a' env' H' S' nx' w' h1 h2 h3 h4 h5
    exact ⟨ρ', env', H', S', nx', h1, h2, h3, h4, rfl, h5⟩

structure callQ (cx : Cx) (f : FuncId) (args : List SV) (H : Heap) (S : Asn) (nx : Nat) (K : SV → Prop) : Prop where
  out : (∀ as w, (callFunc f as).run cx.P w = .ok (.enter f as) w) ∧
  ∃ val : Value, (∀ ρ w, Abs cx.B ρ nx H S w → Calls cx.P f (SV.rfs ρ args).toArray w (fun e w' => e = .returned val ∧ Ext w w')) ∧ K (.c val)
theorem callQ_def {cx : Cx} {f : FuncId} {args : List SV} {H : Heap} {S : Asn} {nx : Nat} {K : SV → Prop} : callQ cx f args H S nx K = ((∀ as w, (callFunc f as).run cx.P w = .ok (.enter f as) w) ∧
  ∃ val : Value, (∀ ρ w, Abs cx.B ρ nx H S w → Calls cx.P f (SV.rfs ρ args).toArray w (fun e w' => e = .returned val ∧ Ext w w')) ∧ K (.c val)) := propext ⟨fun h => h.out, fun h => ⟨h⟩⟩
theorem callQ_of {cx : Cx} {f : FuncId} {args : List SV} {H : Heap} {S : Asn} {nx : Nat} {K : SV → Prop} (hf : ∀ as w, (callFunc f as).run cx.P w = .ok (.enter f as) w) (val : Value)
    (hc : ∀ ρ w, Abs cx.B ρ nx H S w → Calls cx.P f (SV.rfs ρ args).toArray w (fun e w' => e = .returned val ∧ Ext w w')) (h : K (.c val)) : callQ cx f args H S nx K := by
  rw [callQ_def]; exact ⟨hf, val, hc, h⟩
def callVQ (cx : Cx) (fv : SV) (args : List SV) (H : Heap) (S : Asn) (nx : Nat) (K : SV → Prop) : Prop :=
  match fv with
  | .c (.func (.func f) a b) => (match a.toList, b.toList with
    | [], [] => callQ cx f args H S nx K
    | x, y => callQ cx f (cs x ++ args ++ cs y) H S nx K)
  | .fn (.func f) a b => callQ cx f (a ++ args ++ b) H S nx K
  | _ => False
def calleeOf : Op → Option (Operand × List Operand)
  | .call c => (match c.callee with | .value f => some (f, c.args.toList) | _ => none)
  | _ => none
def regQ (cx : Cx) (ops : List Oper) (H : Heap) (S : Asn) (nx : Nat) (K : Env → Prop) : List Oper → Env → Prop
  | [], env => K env
  | o :: r, env => guardK cx.n ops o.guard env (fun b => match b with
    | true => (match calleeOf o.op with
      | some (f, as) => evK cx.n env f fun fv => evsK cx.n env (fun l => callVQ cx fv l H S nx (fun v => putEK env o.dst v (regQ cx ops H S nx K r))) as
      | none => opQ cx o.op env H S (fun v => putEK env o.dst v (regQ cx ops H S nx K r)))
    | false => putEK env o.dst (.c undef) (regQ cx ops H S nx K r))

section
variable {cx : Cx} (hok : ∀ p ∈ cx.tab, mkTI cx.P p.1 = some p.2)
include hok in
theorem regQ_sound {ops : Array Oper} {ρ : Nat → Loc} {H : Heap} {S : Asn} {nx : Nat} {K : Env → Prop} {w0 : World} (hw0 : Abs cx.B ρ nx H S w0) : ∀ {l : List Oper} {env : Env} {a : Act} {Q : Act → Prop},
    regQ cx ops.toList H S nx K l env → Sat cx.n ρ nx env a → (∀ env' a', Sat cx.n ρ nx env' a' → K env' → Q a') → wpQuiet cx.P ops (fun w => Abs cx.B ρ nx H S w) Q l a
  | [], env, a, Q, h, hs, hq => hq env a hs h
  | o :: r, env, a, Q, h, hs, hq => by
    unfold regQ at h
    have h := guardK_spec hs h
    unfold wpQuiet
    have rest : ∀ v : SV, v.lt nx → regQ cx ops.toList H S nx K r (putE env o.dst v) → wpQuiet cx.P ops (fun w => Abs cx.B ρ nx H S w) Q r (a.put o.dst (v.rf ρ)) := fun v hv h =>
      regQ_sound hw0 h (hs.put (fun _ _ => rfl) (Nat.le_refl _) hv) hq
    cases hwt : Region.wanted o (yielded ops a.tmps) with
    | false =>
      rw [hwt] at h
      rw [if_neg (by simp)]
      rw [putEK_eq] at h
      exact rest (.c undef) (SV.lt_c _) h
    | true =>
      rw [hwt] at h
      dsimp only at h
      rw [if_pos rfl]
      cases hc : calleeOf o.op with
      | none =>
        rw [hc] at h
        dsimp only at h
        obtain ⟨v, h1, h2, h3⟩ := opQ_sound hok hs hw0 h
        rw [putEK_eq] at h2
        refine ⟨v.rf ρ, fun w hw => ?_, rest v h1 h2⟩
        unfold Oper.quietAt
        rw [h3 w hw]
        exact ⟨rfl, rfl⟩
      | some x =>
        obtain ⟨f, as⟩ := x
        rw [hc] at h
        dsimp only at h
        obtain ⟨dst, op, type, pos, after, guard⟩ := o
        cases op with
        | call c =>
          simp only [calleeOf] at hc
          cases hcc : c.callee with
          | value f' =>
            rw [hcc] at hc
            obtain ⟨rfl, rfl⟩ : f' = f ∧ c.args.toList = as := by simpa using hc
            obtain ⟨fv, h1, h2, h3⟩ := evK_spec hs h
            obtain ⟨l, h4, h5, h6⟩ := evsK_spec hs h1
            have e1 : c.args.map a.eval = (SV.rfs ρ l).toArray := by rw [← h5]; apply Array.ext'; simp
            have run : ∀ (g : FuncId) (x y : Array Value), a.eval f' = .func (.func g) x y → ∀ w, (execOp a.eval ⟨dst, .call c, type, pos, after, guard⟩).run cx.P w = (callFunc g (x ++ (SV.rfs ρ l).toArray ++ y)).run cx.P w := by
              intro g x y hf w
              simp only [execOp, resolve, hcc, e1, hf, Deferred.ofValue, Sem.run_bind, Sem.run_pure, Result.andThen_ok, invoke]
            have fin : ∀ (g : FuncId) (x y : Array Value) (args : List SV), a.eval f' = .func (.func g) x y → x ++ (SV.rfs ρ l).toArray ++ y = (SV.rfs ρ args).toArray →
                callQ cx g args H S nx (fun v => putEK env dst v (regQ cx ops.toList H S nx K r)) → Oper.quiet cx.P ⟨dst, .call c, type, pos, after, guard⟩ a (fun w => Abs cx.B ρ nx H S w) (wpQuiet cx.P ops (fun w => Abs cx.B ρ nx H S w) Q r) := by
              intro g x y args hf ha hq'
              rw [callQ_def] at hq'
              obtain ⟨g1, val, g2, g3⟩ := hq'
              rw [putEK_eq] at g3
              refine ⟨val, fun w hw => ?_, rest (.c val) (SV.lt_c _) g3⟩
              unfold Oper.quietAt
              rw [run g x y hf w, g1]
              refine ⟨rfl, ?_⟩
              rw [ha]
              exact (g2 ρ w hw).mono fun e w'' he => ⟨he.1, hw.ext he.2⟩
            unfold callVQ at h4
            split at h4
            · rename_i g x y
              split at h4
              · rename_i hx hy
                have hx' : x = #[] := by cases x; simpa using hx
                have hy' : y = #[] := by cases y; simpa using hy
                exact fin g x y _ (by rw [h2]; rfl) (by subst hx'; subst hy'; simp) h4
              · exact fin g x y _ (by rw [h2]; rfl) (by rw [rfs_append, rfs_append, rfs_cs, rfs_cs]; apply Array.ext'; simp) h4
            · rename_i g x y
              exact fin g _ _ _ (by rw [h2]; rfl) (by rw [rfs_append, rfs_append]; apply Array.ext'; simp) h4
            · exact h4.elim
          | invoke r m => rw [hcc] at hc; cases hc
          | builtin b => rw [hcc] at hc; cases hc
        | _ => cases hc
end

/-- A region that draws and only reads. -/
theorem draw_quiet {cx : Cx} (hok : ∀ p ∈ cx.tab, mkTI cx.P p.1 = some p.2) (hm : cx.P.follows .mixedOrders = true) {id : Nat} {ops : Array Oper} {env : Env} {H : Heap} {S : Asn} {nx : Nat} {K : Env → Heap → Asn → Nat → Prop}
    (hB : Region.lexB .any ops = true) (h : regQ cx ops.toList H S nx (fun env' => K env' H S nx) ops.toList env) : drawK cx id ops env H S nx K := by
  rw [drawK_def, Wp_def]
  intro ρ a w hs hw
  refine wp_region_quiet (C := fun w => Abs cx.B ρ nx H S w) hm hB hw.drew ?_
  refine regQ_sound hok hw h hs ?_
  intro env' a' hs' hk w' hw'
  exact ⟨ρ, env', H, S, nx, fun _ _ => rfl, Nat.le_refl _, hs', hw', rfl, hk⟩
end Go.SX

/- SxT -/
namespace Go.SX
open Go.RowKit

theorem rowsA_in {base : Option Addr} {k : Nat} {xs : List (List Value)} {R : Nat → Prop} {w : World} (h : (rowsA base k xs).holds R w) : RowsI w base k xs := by
  rcases h.2 with h | ⟨b, off, h1, _, h3⟩
  · exact .inl h
  · exact .inr ⟨_, h1, fun i r hi j v hj => by rw [add_none]; exact h3 i r hi j v hj⟩
/-- the same with the slice's value -/
def rowsV (v : Value) (k : Nat) (xs : List (List Value)) : Asn where
  holds R w := ∃ base cap, v = .slice base xs.length cap ∧ (rowsA base k xs).holds R w
  stable := by
    rintro R R' w w' hR hw ⟨base, cap, h1, h2⟩
    exact ⟨base, cap, h1, (rowsA base k xs).stable hR hw h2⟩

mutual
def SV.fz (i : Nat) (l : Loc) : SV → SV
  | .c v => .c v
  | .lp j a k f => bif Nat.beq j i then .c (.pointer (l.base.map (·.add (a * k + f)))) else .lp j a k f
  | .os j n => bif Nat.beq j i then .c (.slice l.base n l.cap) else .os j n
  | .agg xs => .agg (SV.fzs i l xs)
  | .tup xs => .tup (SV.fzs i l xs)
  | .fn f a b => .fn f (SV.fzs i l a) (SV.fzs i l b)
  | .ifc t v => .ifc t (v.fz i l)
def SV.fzs (i : Nat) (l : Loc) : List SV → List SV
  | [] => []
  | v :: r => v.fz i l :: SV.fzs i l r
end
mutual
theorem SV.rf_fz (i : Nat) (ρ : Nat → Loc) : ∀ v : SV, (v.fz i (ρ i)).rf ρ = v.rf ρ
  | .c _ => rfl
  | .lp j a k f => by
    simp only [SV.fz]
    cases h : Nat.beq j i with
    | true => have := Nat.eq_of_beq_eq_true h; subst this; rfl
    | false => rfl
  | .os j n => by
    simp only [SV.fz]
    cases h : Nat.beq j i with
    | true => have := Nat.eq_of_beq_eq_true h; subst this; rfl
    | false => rfl
  | .agg l => by simp only [SV.fz, SV.rf]; rw [SV.rfs_fz i ρ l]
  | .tup l => by simp only [SV.fz, SV.rf]; rw [SV.rfs_fz i ρ l]
  | .fn f a b => by simp only [SV.fz, SV.rf]; rw [SV.rfs_fz i ρ a, SV.rfs_fz i ρ b]
  | .ifc t v => by simp only [SV.fz, SV.rf]; rw [SV.rf_fz i ρ v]
theorem SV.rfs_fz (i : Nat) (ρ : Nat → Loc) : ∀ l : List SV, SV.rfs ρ (SV.fzs i (ρ i) l) = SV.rfs ρ l
  | [] => rfl
  | v :: r => by simp only [SV.fzs, SV.rfs]; rw [SV.rf_fz i ρ v, SV.rfs_fz i ρ r]
end
mutual
theorem SV.has_fz {i x : Nat} {l : Loc} : ∀ {v : SV}, (v.fz i l).has x = true → v.has x = true
  | .c _, h => h
  | .lp j a k f, h => by
    simp only [SV.fz] at h
    cases hb : Nat.beq j i with
    | true => rw [hb] at h; simp [SV.has] at h
    | false => rw [hb] at h; exact h
  | .os j n, h => by
    simp only [SV.fz] at h
    cases hb : Nat.beq j i with
    | true => rw [hb] at h; simp [SV.has] at h
    | false => rw [hb] at h; exact h
  | .agg l, h => by simp only [SV.fz, SV.has] at h ⊢; exact SV.hass_fz h
  | .tup l, h => by simp only [SV.fz, SV.has] at h ⊢; exact SV.hass_fz h
  | .fn f a b, h => by
    simp only [SV.fz, SV.has, Bool.or_eq_true] at h ⊢
    exact h.imp SV.hass_fz SV.hass_fz
  | .ifc t v, h => by simp only [SV.fz, SV.has] at h ⊢; exact SV.has_fz h
theorem SV.hass_fz {i x : Nat} {l : Loc} : ∀ {xs : List SV}, SV.hass x (SV.fzs i l xs) = true → SV.hass x xs = true
  | [], h => h
  | v :: r, h => by
    simp only [SV.fzs, SV.hass, Bool.or_eq_true] at h ⊢
    exact h.imp SV.has_fz SV.hass_fz
end
def Env.fz (i : Nat) (l : Loc) : Env → Env
  | [] => []
  | (t, v) :: r => (t, v.fz i l) :: Env.fz i l r
theorem Env.get_fz {i : Nat} {l : Loc} : ∀ {env : Env} {t : Nat} {v : SV}, (env.fz i l).get t = some v → ∃ u, env.get t = some u ∧ v = u.fz i l
  | [], t, v, h => by cases h
  | (j, u) :: r, t, v, h => by
    simp only [Env.fz, Env.get_cons] at h ⊢
    by_cases hj : j = t
    · rw [if_pos hj] at h ⊢; exact ⟨u, rfl, by simpa using h.symm⟩
    · rw [if_neg hj] at h ⊢; exact Env.get_fz h
def Ent.fz (i : Nat) (l : Loc) : Ent → Ent
  | .box cs T => .box (SV.fzs i l cs) T
  | e => e
def Heap.fz (i : Nat) (l : Loc) : Heap → Heap
  | [] => []
  | (j, e) :: r => (j, e.fz i l) :: Heap.fz i l r
theorem Heap.fz_eq (i : Nat) (l : Loc) (H : Heap) : Heap.fz i l H = H.map fun p => (p.1, p.2.fz i l) := by
  induction H with
  | nil => rfl
  | cons p r ih => obtain ⟨j, e⟩ := p; simp [Heap.fz, ih]

/-- One's own rows are written no more: from here on they stay. -/
theorem Wp.freeze {cx : Cx} {c : Code} {env : Env} {H : Heap} {S : Asn} {nx : Nat} {K : Exit → Env → Heap → Asn → Nat → Prop} (i : Nat) {xs : List (List Value)} {k : Nat} {T : TypeId} (he : (i, Ent.rows xs k T) ∈ H)
    (h : ∀ l : Loc, xs.length ≤ l.cap → Wp cx c (env.fz i l) (Heap.fz i l (delH i H)) (S.and (rowsA l.base k xs)) nx K) : Wp cx c env H S nx K := by
  simp only [Wp_def] at *
  intro ρ a w hs hw
  obtain ⟨R, φ, hw⟩ := hw
  have hent := hw.ent _ he
  obtain ⟨hr, hcap, hent'⟩ := hent
  have hdel : ∀ p ∈ delH i H, p.1 ≠ i ∧ ∀ b, φ p.1 b → ¬ φ i b := by
    have : ∀ {H : Heap}, H.Pairwise (fun p q => p.1 ≠ q.1 ∧ ∀ b, φ p.1 b → ¬ φ q.1 b) → ∀ {e : Ent}, (i, e) ∈ H → ∀ p ∈ delH i H, p.1 ≠ i ∧ ∀ b, φ p.1 b → ¬ φ i b := by
      intro H hsep
      induction H with
      | nil => intro e he; cases he
      | cons q r ih =>
        obtain ⟨hq, hr⟩ := List.pairwise_cons.1 hsep
        intro e he p hp
        obtain ⟨qi, qe⟩ := q
        unfold delH at hp
        cases hbq : Nat.beq qi i with
        | true =>
          rw [hbq, cond_true] at hp
          have := Nat.eq_of_beq_eq_true hbq
          subst this
          exact ⟨(hq p hp).1.symm, fun b hb hb' => (hq p hp).2 b hb' hb⟩
        | false =>
          rw [hbq, cond_false] at hp
          have hne := Nat.ne_of_beq_eq_false hbq
          have her : (i, e) ∈ r := (List.mem_cons.1 he).resolve_left (fun g => hne (by simpa using congrArg Prod.fst g.symm))
          rcases List.mem_cons.1 hp with g | g
          · subst g; exact ⟨hne, (hq _ her).2⟩
          · exact ih hr her p g
    exact this hw.sep he
  refine h (ρ i) hcap ρ a w ⟨hs.defers, hs.size, fun t v hv ht => ?_, fun t v hv => ?_⟩ ?_
  · obtain ⟨u, hu, rfl⟩ := Env.get_fz hv
    rw [hs.val t u hu ht, SV.rf_fz]
  · obtain ⟨u, hu, rfl⟩ := Env.get_fz hv
    exact fun x hx => hs.lt t u hu x (SV.has_fz hx)
  · have hsub := hw.drop (delH_sublist i H)
    refine ⟨fun b => R b ∨ φ i b, φ, hw.os, hw.tape, hw.output, hw.size, hw.pin, fun b hb => hb.elim (hw.ro b) (fun hb => Ent.size (hw.ent _ he) hb), ⟨S.stable (fun _ h => .inl h) (fun _ _ => rfl) hw.asn, ?_⟩, ?_, ?_, ?_, ?_⟩
    · refine ⟨hr, ?_⟩
      rcases hent' with ⟨h1, h2, _⟩ | ⟨b, off, c', h1, h2, h3, h4, h5⟩
      · simp only at hcap h2; exact .inl (List.eq_nil_of_length_eq_zero (by omega))
      · exact .inr ⟨b, off, h1, .inr ((h2 b).2 rfl), fun m r hm j v hj => by have := h5 m r hm j v hj; rw [← Nat.add_assoc]; simpa [World.cell?, h3] using this⟩
    · rw [Heap.fz_eq]
      intro p hp
      obtain ⟨q, hq, rfl⟩ := List.mem_map.1 hp
      refine ⟨(hsub.key q hq).1, fun x hx => ?_⟩
      cases hqe : q.2 with
      | box cs T =>
        rw [hqe] at hx
        have := (hsub.key q hq).2
        rw [hqe] at this
        exact this x (SV.hass_fz hx)
      | rows xs k T => rw [hqe] at hx; simp [Ent.fz, Ent.hass] at hx
      | ext o => rw [hqe] at hx; simp [Ent.fz, Ent.hass] at hx
    · rw [Heap.fz_eq]
      intro p hp
      obtain ⟨q, hq, rfl⟩ := List.mem_map.1 hp
      have := hsub.ent q hq
      dsimp only
      cases hqe : q.2 with
      | box cs T =>
        rw [hqe] at this
        obtain ⟨b, h1, h2, h3⟩ := this
        exact ⟨b, h1, h2, by rw [SV.rfs_fz]; exact h3⟩
      | rows xs k T => rw [hqe] at this; exact this
      | ext o => rw [hqe] at this; exact this
    · rw [Heap.fz_eq]
      intro p hp b hb hb'
      obtain ⟨q, hq, rfl⟩ := List.mem_map.1 hp
      exact hb'.elim (hsub.apart q hq b hb) ((hdel q hq).2 b hb)
    · rw [Heap.fz_eq]
      exact List.pairwise_map.2 hsub.sep

/-- new rows: in no block that was there -/
def NewRows (w w' : World) (v : Value) (k : Nat) (T : TypeId) (xs : List (List Value)) : Prop :=
  ∃ l : Loc, v = .slice l.base xs.length l.cap ∧ ∃ F : Nat → Prop, (∀ b, F b → w.heap.size ≤ b) ∧ (Ent.rows xs k T).holds (fun _ => l) l F w'

theorem new_of_abs {B : Base} {ρ : Nat → Loc} {nx : Nat} {H : Heap} {S : Asn} {w : World} {i : Nat} {xs : List (List Value)} {k : Nat} {T : TypeId} (h : Abs B ρ nx H S w) (hS : ∀ R w', S.holds R w' → (baseA B.w0).holds R w') (he : (i, Ent.rows xs k T) ∈ H) :
    NewRows B.w0 w ((SV.os i xs.length).rf ρ) k T xs := by
  obtain ⟨R, φ, h⟩ := h
  have hb := hS R w h.asn
  refine ⟨ρ i, rfl, φ i, fun b hbb => ?_, h.ent _ he⟩
  rcases Nat.lt_or_ge b B.w0.heap.size with hl | hl
  · exact absurd (hb b hl).1 (h.apart _ he b hbb)
  · exact hl

theorem call_new {cx : Cx} {f : FuncId} {args : List SV} {H : Heap} {S : Asn} {nx : Nat} {K : SV → Heap → Asn → Nat → Prop} (hf : ∀ as w, (callFunc f as).run cx.P w = .ok (.enter f as) w) (k : Nat) (T : TypeId) {α : Type} (xs : α → List (List Value)) (p : α → Prop)
    (hc : ∀ ρ w, Abs cx.B ρ nx H S w → Calls cx.P f (SV.rfs ρ args).toArray w (fun e w' => ∃ x, p x ∧ ∃ v, e = .returned v ∧ Ext w w' ∧ NewRows w w' v k T (xs x)))
    (h : ∀ x, p x → K (.os nx (xs x).length) ((nx, .rows (xs x) k T) :: H) S (nx + 1)) : callK cx f args H S nx K := by
  rw [callK_def]
  refine ⟨hf, fun ρ w hw => (hc ρ w hw).mono ?_⟩
  rintro e w' ⟨x, hp, v, rfl, he, l, rfl, F, hF, hent⟩
  have hw' := hw.ext he
  obtain ⟨R, φ, hwR⟩ := hw
  have hwR' := hwR.step (Step.of_ext he) (fun _ _ h => h) (fun _ _ _ _ h => h)
  refine ⟨.os nx (xs x).length, upd ρ nx l, _, S, nx + 1, by simp [SV.rf, upd_same], fun i hi => upd_lt hi, Nat.le_succ _, SV.lt_os (by omega), ?_, h x hp⟩
  refine ⟨R, _, hwR'.add (F := F) (fun y hy => by simp [Ent.hass] at hy) hent (fun b hb hR => ?_) (fun p hp b hb hb' => ?_)⟩
  · have := hwR.ro b hR; have := hF b hb; omega
  · have := Ent.size (hwR.ent p hp) hb; have := hF b hb'; omega

end Go.SX

/- SxU -/
namespace Go.SX
open Go.RowKit

def ints (xs : List Int) : List (List Value) := xs.map fun x => [.int .i64 x]
theorem ints_length (xs : List Int) : (ints xs).length = xs.length := by simp [ints]
theorem ints_get {xs : List Int} {k : Nat} (h : k < xs.length) : (ints xs)[k]? = some [.int .i64 xs[k]] := by simp [ints, h]
theorem ints_row {xs : List Int} : ∀ r ∈ ints xs, r.length = 1 ∧ ∀ v ∈ r, v.oneCell' = true := by
  intro r hr
  simp only [ints, List.mem_map] at hr
  obtain ⟨x, _, rfl⟩ := hr
  exact ⟨rfl, fun v hv => by simp at hv; subst hv; rfl⟩

theorem cell_block {w : World} {a : Addr} {v : Value} (h : w.cell? a = some v) : a.block < w.heap.size := by
  unfold World.cell? at h
  split at h
  · rename_i c _ _ hb; exact lt_size_of_some hb
  · cases h
theorem cell_same {w w' : World} {a : Addr} (h : w'.heap[a.block]? = w.heap[a.block]?) : w'.cell? a = w.cell? a := by
  unfold World.cell?; rw [h]
theorem rows_base {w w' : World} {R : Nat → Prop} {base : Option Addr} {k : Nat} {xs : List (List Value)} (hb : (baseA w).holds R w') (h : RowsI w base k xs) : RowsI w' base k xs := by
  rcases h with h | ⟨a, ha, h⟩
  · exact .inl h
  · refine .inr ⟨a, ha, fun i r hi j v hj => ?_⟩
    have := h i r hi j v hj
    rw [cell_same (hb _ (cell_block this)).2]; exact this
end Go.SX

/- SxV -/
namespace Go.SX
open Go.RowKit

theorem call_bool {cx : Cx} {f : FuncId} {args : List SV} {H : Heap} {S : Asn} {nx : Nat} {K : SV → Heap → Asn → Nat → Prop} (hf : ∀ as w, (callFunc f as).run cx.P w = .ok (.enter f as) w) (b : Bool)
    (hc : ∀ ρ w, Abs cx.B ρ nx H S w → Calls cx.P f (SV.rfs ρ args).toArray w (fun e w' => e = .returned (.bool b) ∧ Ext w w')) (h1 : b = true → K (.c (.bool true)) H S nx) (h2 : b = false → K (.c (.bool false)) H S nx) : callK cx f args H S nx K := by
  cases b with
  | true => exact call_pure hf _ hc (h1 rfl)
  | false => exact call_pure hf _ hc (h2 rfl)
theorem callQ_bool {cx : Cx} {f : FuncId} {args : List SV} {H : Heap} {S : Asn} {nx : Nat} {K : SV → Prop} (hf : ∀ as w, (callFunc f as).run cx.P w = .ok (.enter f as) w) (b : Bool)
    (hc : ∀ ρ w, Abs cx.B ρ nx H S w → Calls cx.P f (SV.rfs ρ args).toArray w (fun e w' => e = .returned (.bool b) ∧ Ext w w')) (h1 : b = true → K (.c (.bool true))) (h2 : b = false → K (.c (.bool false))) : callQ cx f args H S nx K := by
  cases b with
  | true => exact callQ_of hf _ hc (h1 rfl)
  | false => exact callQ_of hf _ hc (h2 rfl)

/-- a slice held against nil -/
theorem slice_nil_eql {P : Program} {t : TypeId} {ti : TI} (h : mkTI P t = some ti) (hk : ti.kind = 1) {ox oy : Operand} {base : Option Addr} {len cap : Nat} {K : SV → Prop} (hK : K (.c (.bool base.isNone))) :
    pureK P (do eqGuard .eql t ox oy (.slice base len cap) (.slice none 0 0); binOp .eql t (.slice base len cap) (.slice none 0 0)) K := by
  rw [pureK_def]
  obtain ⟨i, d, z, hi, hd, hz, rfl⟩ := mkTI_spec h
  simp only at hk
  have hs : ∃ e, d = .slice e := by cases d <;> first | exact ⟨_, rfl⟩ | (simp [kindOf] at hk)
  obtain ⟨e, rfl⟩ := hs
  refine ⟨.bool base.isNone, fun w => ?_, hK⟩
  have h1 : (eqGuard .eql t ox oy (.slice base len cap) (.slice none 0 0)).run P w = .ok () w := by unfold eqGuard; simp
  have h2 : (Op.equal t (.slice base len cap) (.slice none 0 0)).run P w = .ok base.isNone w := by
    unfold Op.equal
    rw [show Op.maxDepth = Nat.succ 9999 from rfl]
    unfold Op.equalIn
    simp only [Sem.run_bind, run_underlying hd, Result.andThen_ok]
    cases base <;> rfl
  simp only [Sem.run_bind, h1, Result.andThen_ok, binOp, h2, Sem.run_pure]

theorem newRows_data {w w' : World} {v : Value} {k : Nat} {T : TypeId} {xs : List (List Value)} (h : NewRows w w' v k T xs) : (rowsV v k xs).holds (fun b => w.heap.size ≤ b ∧ b < w'.heap.size) w' := by
  obtain ⟨l, rfl, F, hF, hr, hcap, hent⟩ := h
  refine ⟨l.base, l.cap, rfl, hr, ?_⟩
  rcases hent with ⟨h1, h2, _⟩ | ⟨b, off, c, h1, h2, h3, h4, h5⟩
  · exact .inl (List.eq_nil_of_length_eq_zero (by omega))
  · refine .inr ⟨b, off, h1, ⟨hF b ((h2 b).2 rfl), lt_size_of_some h3⟩, fun i r hi j v hj => ?_⟩
    have := h5 i r hi j v hj
    rw [← Nat.add_assoc]
    simpa [World.cell?, h3] using this
theorem Asn.mono (S : Asn) {R R' : Nat → Prop} {w : World} (h : S.holds R w) (hR : ∀ b, R b → R' b) : S.holds R' w := S.stable hR (fun _ _ => rfl) h

/-- rows at hand: one's own slice as a caller sees it -/
theorem rows_of_abs {B : Base} {ρ : Nat → Loc} {nx : Nat} {H : Heap} {S : Asn} {w : World} {i : Nat} {xs : List (List Value)} {k : Nat} {T : TypeId} (h : Abs B ρ nx H S w) (he : (i, Ent.rows xs k T) ∈ H) : RowsI w (ρ i).base k xs := by
  obtain ⟨R, φ, h⟩ := h
  obtain ⟨hr, hcap, hent⟩ := h.ent _ he
  simp only at hcap hent
  rcases hent with ⟨h1, h2, _⟩ | ⟨b, off, c, h1, h2, h3, h4, h5⟩
  · exact .inl (List.eq_nil_of_length_eq_zero (by omega))
  · refine .inr ⟨_, h1, fun m r hm j v hj => ?_⟩
    have := h5 m r hm j v hj
    rw [add_none, ← Nat.add_assoc]
    simpa [World.cell?, h3] using this
theorem holds_of_abs {B : Base} {ρ : Nat → Loc} {nx : Nat} {H : Heap} {S : Asn} {w : World} {p : Prop} (h : Abs B ρ nx H S w) (hp : ∀ R, S.holds R w → p) : p := by
  obtain ⟨R, φ, h⟩ := h; exact hp R h.asn
end Go.SX

/- SxW -/
namespace Go.SX
open Go.RowKit Go.ChangeShapes Go.WideShapes Go.Deep

section
variable {P : Program} {w : World}

/-- whatever is read of this type has cells of this form -/
structure Opens (P : Program) (w : World) (t : TypeId) (Q : List Value → Prop) : Prop where
  out : ∀ {H : Type} (enc : TypeId × Value → H) (base : Nat) (sp : Nat → Bool) (held : Bool) (n : Nat) (cs : List Value) (x : DataW H × List MemPlace), DataW.trod enc P w base sp held n t cs = some x → Q cs

theorem Opens.mono {t : TypeId} {Q Q' : List Value → Prop} (h : Opens P w t Q) (hq : ∀ cs, Q cs → Q' cs) : Opens P w t Q' :=
  ⟨fun enc base sp held n cs x hx => hq cs (h.out enc base sp held n cs x hx)⟩

theorem opens_int {t : TypeId} {k : IntKind} (ht : P.underlying t = some (.int k)) : Opens P w t fun cs => ∃ i, (Lit.int k i).wf = true ∧ cs = [.int k i] := by
  constructor
  intro H enc base sp held n cs x h
  obtain ⟨i, h1, _, h2⟩ := DataW.trod_int ht h
  exact ⟨i, h2, h1⟩

theorem cells_int {v : Value} {k : IntKind} {i : Int} {t : TypeId} {r : Reach} {b0 : Nat} (ht : P.underlying t = some (.int k)) (hv : Value.okWide P w r b0 t v) (h : v.cells.toList = [.int k i]) : v = .int k i := by
  obtain ⟨n, rfl⟩ := okWide_int ht hv
  simpa [Value.cells] using h
end

section
variable {H : Type} {enc : TypeId × Value → H} {P : Program}

theorem trodAll_stays (hl : laidOutB P = true) {W W' : World} (hE : Ext W W') {sp : Nat → Bool} : ∀ (ts : List TypeId) (vs : List Value) (ds : List (DataW H)) (ps : List MemPlace),
    (∀ t ∈ ts, P.readableRec t = true ∧ t < P.types.size) → DataW.TrodAll enc P W 0 (fun _ => true) true ts vs ds ps → (∀ p ∈ ps, p.block < W.heap.size) → (∀ p ∈ ps, sp p.block = true) → DataW.TrodAll enc P W' 0 sp true ts vs ds ps
  | [], [], [], ps, _, h, _, _ => h
  | t :: ts, v :: vs, d :: ds, ps, ht, h, hlt, hs => by
    obtain ⟨p, q, h1, h2, rfl⟩ := h
    refine ⟨p, q, ?_, trodAll_stays hl hE ts vs ds q (fun u hu => ht u (by simp [hu])) h2 (fun x hx => hlt x (by simp [hx])) (fun x hx => hs x (by simp [hx])), rfl⟩
    exact WideElems.Trod_stays hl (ht t (by simp)).1 (ht t (by simp)).2 h1 (fun x hx => hE.same (hlt x (by simp [hx]))) (fun x hx => hs x (by simp [hx]))
  | [], _ :: _, _, _, _, h, _, _ => by simp [DataW.TrodAll] at h
  | [], [], _ :: _, _, _, h, _, _ => by simp [DataW.TrodAll] at h
  | _ :: _, [], _, _, _, h, _, _ => by simp [DataW.TrodAll] at h
  | _ :: _, _ :: _, [], _, _, h, _, _ => by simp [DataW.TrodAll] at h

/-- 'true, and the arguments read as they did' -/
theorem law_post {f : Func} {s : ChangeSpec} {apart fresh handsOn again : Bool} {W W' : World} {args : Array Value} {ds gs : List (DataW H)} {before : List MemPlace} {t : TypeId}
    (hl : laidOutB P = true) (hr : (f.params.toList.all fun t => P.readableRec t && decide (t < P.types.size)) = true) (hvars : s.vars = []) (hres : f.resultTypes = #[t]) (ht : P.underlying t = some .bool)
    (hfn : s.fn H ds = { results := [.lit (.bool true)], args := ds })
    (hW : DataW.Whole enc P f.params.toList s.vars apart W args.toList ds gs before) (hE : Ext W W') : s.post enc P f apart fresh handsOn again W args (.bool true) W' := by
  have hlt := hW.lt
  obtain ⟨p, q, hA, hV, hpq, _⟩ := id hW
  rw [hvars] at hV
  obtain ⟨rfl, rfl⟩ := trodVars_none hV
  have hfn' : s.fn H (ds ++ []) = { results := [.lit (.bool true)], args := ds } := by rw [List.append_nil]; exact hfn
  have hall : ∀ t ∈ f.params.toList, P.readableRec t = true ∧ t < P.types.size := fun t ht => by simpa using List.all_eq_true.1 hr t ht
  rw [List.append_nil] at hpq
  subst hpq
  have hres' : ∀ b sp hd, DataW.TrodAll enc P W' b sp hd f.resultTypes.toList ((Value.bool true).resultList f.resultTypes.size) (s.fn H (ds ++ [])).results [] := by
    intro b sp hd
    rw [hfn', hres]
    exact trodAll_mk1 (shut_bool ht _)
  have hargs : ∀ sp : Nat → Bool, (∀ x ∈ before, sp x.block = true) → DataW.TrodAll enc P W' 0 sp true f.params.toList args.toList (s.fn H (ds ++ [])).args before := by
    intro sp hsp
    rw [hfn']
    exact trodAll_stays hl hE _ _ _ _ hall hA hlt hsp
  have hvs : ∀ sp : Nat → Bool, DataW.TrodVars enc P W' sp s.vars (s.fn H (ds ++ [])).vars [] := by
    intro sp
    rw [hfn', hvars]
    rfl
  refine ⟨ds, [], before, [], before, [], hW, hres' _ _ _, hargs _ (fun x hx => by simpa using hlt x hx), hvs _, hE.frame _, fun _ => ?_⟩
  refine ⟨ok_one hres rfl (okWide_bool_mk ht _), _, _, ([] ++ before) ++ [], ⟨[] ++ before, [], trodAll_append (hargs _ (fun _ _ => rfl)) (hres' _ _ _), hvs _, rfl, ?_, ?_⟩, ?_⟩
  · intro b off hp
    obtain ⟨_, _, _, _, _, hz, _⟩ := hW
    have hp' : MemPlace.cell b off ∈ before := by simpa using hp
    rw [hE.frozen (hlt _ hp')]
    exact hz b off hp'
  · intro ha
    obtain ⟨_, _, _, _, _, _, hn⟩ := hW
    simpa using hn ha
  · intro p hp _
    simpa using hp

/-- the law's contract from its walk -/
theorem law_contract {f : Func} {n : FuncId} {s : ChangeSpec} {apart fresh handsOn again : Bool} {W : World} {args : Array Value} {ds gs : List (DataW H)} {before : List MemPlace} {t : TypeId}
    (hl : laidOutB P = true) (hr : (f.params.toList.all fun t => P.readableRec t && decide (t < P.types.size)) = true) (hvars : s.vars = []) (hres : f.resultTypes = #[t]) (ht : P.underlying t = some .bool)
    (hfn : s.fn H ds = { results := [.lit (.bool true)], args := ds })
    (hW : DataW.Whole enc P f.params.toList s.vars apart W args.toList ds gs before)
    (hc : Calls P n args W fun e W' => e = .returned (.bool true) ∧ Ext W W') :
    Calls P n args W fun e W' => ∃ v, e = .returned v ∧ s.post enc P f apart fresh handsOn again W args v W' :=
  hc.mono fun _ _ ⟨he, hE⟩ => ⟨_, he, law_post hl hr hvars hres ht hfn hW hE⟩
end
end Go.SX

/- SxX -/
namespace Go.SX
open Go.RowKit

/-- so many rounds of a loop at the most -/
def RoundsK (cx : Cx) (body : Code) (K : Exit → Env → Heap → Asn → Nat → Prop) : Nat → Env → Heap → Asn → Nat → Prop
  | 0, _, _, _, _ => False
  | n + 1, env, H, S, nx => Wp cx body env H S nx (fun e env' H' S' nx' => match e with
      | .normal => RoundsK cx body K n env' H' S' nx'
      | e => K e env' H' S' nx')
theorem Wp.rounds {cx : Cx} {body : Code} {env : Env} {H : Heap} {S : Asn} {nx : Nat} {K : Exit → Env → Heap → Asn → Nat → Prop} (n : Nat) (h : RoundsK cx body K n env H S nx) : Wp cx (.loop body) env H S nx K := by
  refine ⟨fun ρ a w hs hw => wp_loop_rounds n ?_⟩
  have key : ∀ (n : Nat) {env : Env} {H : Heap} {S : Asn} {nx1 : Nat} {ρ1 : Nat → Loc} {a : Act} {w : World}, RoundsK cx body K n env H S nx1 → (∀ i, i < nx → ρ1 i = ρ i) → nx ≤ nx1 → Sat cx.n ρ1 nx1 env a → Abs cx.B ρ1 nx1 H S w →
      Code.rounds cx.P body (fun e a' w' => ∃ ρ' env' H' S' nx', (∀ i, i < nx → ρ' i = ρ i) ∧ nx ≤ nx' ∧ Sat cx.n ρ' nx' env' a' ∧ Abs cx.B ρ' nx' H' S' w' ∧ K e env' H' S' nx') n a w := by
    intro n
    induction n with
    | zero => intro env H S nx1 ρ1 a w h; exact h.elim
    | succ n ih =>
      intro env H S nx1 ρ1 a w h hr hn hs hw
      rw [rounds_succ]
      have h' : Wp cx body env H S nx1 (fun e env' H' S' nx' => match e with
        | .normal => RoundsK cx body K n env' H' S' nx'
        | e => K e env' H' S' nx') := h
      refine wp_mono (h'.out ρ1 a w hs hw) ?_
      rintro e a' w' ⟨ρ', env', H', S', nx', h1, h2, h3, h4, h5⟩
      have hr' : ∀ i, i < nx → ρ' i = ρ i := fun i hi => (h1 i (Nat.lt_of_lt_of_le hi hn)).trans (hr i hi)
      cases e with
      | normal => exact ih h5 hr' (Nat.le_trans hn h2) h3 h4
      | _ => exact ⟨ρ', env', H', S', nx', hr', Nat.le_trans hn h2, h3, h4, h5⟩
  exact key n h (fun _ _ => rfl) (Nat.le_refl _) hs hw
/-- a fact that holds in every world at hand -/
theorem Wp.know {cx : Cx} {c : Code} {env : Env} {H : Heap} {S : Asn} {nx : Nat} {K : Exit → Env → Heap → Asn → Nat → Prop} {p : Prop} (h1 : ∀ ρ w, Abs cx.B ρ nx H S w → p) (h2 : p → Wp cx c env H S nx K) : Wp cx c env H S nx K :=
  ⟨fun ρ a w hs hw => (h2 (h1 ρ w hw)).out ρ a w hs hw⟩

theorem idx_z {base : Option Addr} {len size : Nat} {z : Int} {K : SV → Prop} {a : Addr} (hb : base = some a) (h0 : 0 ≤ z) (h1 : z < len) (h : K (.c (.pointer (some (a.add (z.toNat * size)))))) : idxK base len size z K := by
  rw [idxK_def]; exact ⟨a, hb, h0, h1, h⟩
theorem ro_int {a : Addr} {j : Nat} {S : Asn} {xs : List Int} {K : SV → Prop} (hx : ∀ R w, S.holds R w → RowsI w (some a) 1 (ints xs)) (hj : j < xs.length) (h : K (.c (.int .i64 (xs.getD j 0)))) : roK (a.add (j * 1)) S K :=
  ro_row0 hx [.int .i64 (xs.getD j 0)] (.int .i64 (xs.getD j 0)) (by rw [ints_get hj]; simp [List.getD, hj]) rfl h
theorem slice_full {base : Option Addr} {len cap size : Nat} {K : SV → Prop} (hc : len ≤ cap) (h : K (.c (.slice base len len))) : sliceK base len cap size none (some (len : Int)) (some (len : Int)) K := by
  rw [sliceK_def]
  refine ⟨0, len, len, rfl, rfl, rfl, Nat.zero_le _, Nat.le_refl _, hc, fun _ => rfl, ?_⟩
  have : (if len = 0 then base else base.map (·.add (0 * size))) = base := by
    split
    · rfl
    · cases base <;> simp [Addr.add]
  have e : len - 0 = len := Nat.sub_zero len
  rw [this, e]
  exact h
theorem Abs.grow {B : Base} {ρ : Nat → Loc} {nx : Nat} {H : Heap} {S : Asn} {w w' : World} {D : Asn} (hw : Abs B ρ nx H S w) (he : Ext w w') (hD : D.holds (fun b => w.heap.size ≤ b ∧ b < w'.heap.size) w') : Abs B ρ nx H (S.and (D.past B.w0.heap.size)) w' := by
  obtain ⟨R, φ, hwR⟩ := hw
  have hwR' := hwR.step (Step.of_ext he) (fun _ _ h => h) (fun _ _ _ _ h => h)
  refine ⟨fun b => R b ∨ (w.heap.size ≤ b ∧ b < w'.heap.size), φ, hwR'.os, hwR'.tape, hwR'.output, hwR'.size, hwR'.pin, fun b hb => hb.elim (hwR'.ro b) (fun h => h.2), ⟨S.stable (fun _ h => .inl h) (fun _ _ => rfl) hwR'.asn, ?_⟩, hwR'.key, hwR'.ent, fun p hp b hb hb' => ?_, hwR'.sep⟩
  · exact D.stable (fun b hb => ⟨.inr hb, Nat.le_trans hwR.size hb.1⟩) (fun _ _ => rfl) hD
  · rcases hb' with hb' | hb'
    · exact hwR'.apart p hp b hb hb'
    · have := Ent.size (hwR.ent p hp) hb; omega
/-- a call that hands back data in new memory, which stay -/
theorem call_past {cx : Cx} {f : FuncId} {args : List SV} {H : Heap} {S : Asn} {nx : Nat} {K : SV → Heap → Asn → Nat → Prop} (hf : ∀ ar w, (callFunc f ar).run cx.P w = .ok (.enter f ar) w) {α : Type} (val : α → Value) (D : α → Asn) (p : α → Prop)
    (hc : ∀ ρ w, Abs cx.B ρ nx H S w → Calls cx.P f (SV.rfs ρ args).toArray w (fun e w' => ∃ x, p x ∧ e = .returned (val x) ∧ Ext w w' ∧ (D x).holds (fun b => w.heap.size ≤ b ∧ b < w'.heap.size) w'))
    (h : ∀ x, p x → K (.c (val x)) H (S.and ((D x).past cx.B.w0.heap.size)) nx) : callK cx f args H S nx K := by
  rw [callK_def]
  refine ⟨hf, fun ρ w hw => (hc ρ w hw).mono ?_⟩
  rintro e w' ⟨x, hp, rfl, he, hD⟩
  exact ⟨.c (val x), ρ, H, _, nx, rfl, fun _ _ => rfl, Nat.le_refl _, SV.lt_c _, hw.grow he hD, h x hp⟩
/-- at the end: data of blocks from N on lie in new blocks -/
theorem past_new {B : Base} {ρ : Nat → Loc} {nx : Nat} {H : Heap} {S D : Asn} {w : World} (hw : Abs B ρ nx H S w) (hS : ∀ R w', S.holds R w' → (D.past B.w0.heap.size).holds R w') : D.holds (fun b => B.w0.heap.size ≤ b ∧ b < w.heap.size) w := by
  obtain ⟨R, φ, hw⟩ := hw
  exact D.stable (fun b hb => ⟨hb.2, hw.ro b hb.1⟩) (fun _ _ => rfl) (hS R w hw.asn)
end Go.SX

/- SxY -/
namespace Go.SX
open Go.RowKit

end Go.SX

/- SxZ -/
namespace Go.SX
open Go.RowKit
theorem sep_two {φ : Nat → Nat → Prop} : ∀ {H : Heap}, H.Pairwise (fun p q => p.1 ≠ q.1 ∧ ∀ b, φ p.1 b → ¬ φ q.1 b) → ∀ {p q : Nat × Ent}, p ∈ H → q ∈ H → p.1 ≠ q.1 → ∀ b, φ p.1 b → ¬ φ q.1 b
  | [], _, p, q, hp, _, _, _, _ => by cases hp
  | x :: r, hs, p, q, hp, hq, hne, b, hb => by
    obtain ⟨hx, hr⟩ := List.pairwise_cons.1 hs
    intro hb'
    rcases List.mem_cons.1 hp with gp | gp <;> rcases List.mem_cons.1 hq with gq | gq
    · exact hne (by rw [gp, gq])
    · rw [← gp] at hx; exact (hx _ gq).2 b hb hb'
    · rw [← gq] at hx; exact (hx _ gp).2 b hb' hb
    · exact sep_two hr gp gq hne b hb hb'
end Go.SX

/- SxZa -/
namespace Go.SX
open Go.RowKit

/-- the blocks that were there, but for some -/
def othF (w : World) (F : Nat → Prop) : Nat → Prop := fun x => x < w.heap.size ∧ ¬ F x
/-- all but some blocks stand as they did -/
def restF (w0 : World) (F : Nat → Prop) : Asn where
  holds R w := ∀ x, othF w0 F x → R x ∧ w.heap[x]? = w0.heap[x]?
  stable := fun hR hw h x hx => ⟨hR x (h x hx).1, (hw x (h x hx).1).trans (h x hx).2⟩

/-- at block b: a slice; its rows; F: the blocks of both -/
def SliceAt (T TE : TypeId) (k : Nat) (xs : List (List Value)) (b : Nat) (F : Nat → Prop) (w : World) : Prop :=
  ∃ (v : Loc) (G : Nat → Prop), w.heap[b]? = some (.cells #[.slice v.base xs.length v.cap] T (0, 0)) ∧ (∀ x, F x ↔ x = b ∨ G x) ∧ ¬ G b ∧ (Ent.rows xs k TE).holds (fun _ => v) v G w
theorem SliceAt.stable {T TE : TypeId} {k : Nat} {xs : List (List Value)} {b : Nat} {F : Nat → Prop} {w w' : World} (hf : ∀ x, F x → w'.heap[x]? = w.heap[x]?) (h : SliceAt T TE k xs b F w) : SliceAt T TE k xs b F w' := by
  obtain ⟨v, G, h1, h2, h3, h4⟩ := h
  exact ⟨v, G, by rw [hf b ((h2 b).2 (.inl rfl))]; exact h1, h2, h3, Ent.stable (fun x hx => hf x ((h2 x).2 (.inr hx))) h4⟩
theorem SliceAt.size {T TE : TypeId} {k : Nat} {xs : List (List Value)} {b : Nat} {F : Nat → Prop} {w : World} (h : SliceAt T TE k xs b F w) {x : Nat} (hx : F x) : x < w.heap.size := by
  obtain ⟨v, G, h1, h2, h3, h4⟩ := h
  rcases (h2 x).1 hx with rfl | hx
  · exact lt_size_of_some h1
  · exact Ent.size h4 hx
def sliceO (T TE : TypeId) (k : Nat) (xs : List (List Value)) : Own where
  holds l F w := ∃ b, l.base = some ⟨b, 0, none⟩ ∧ SliceAt T TE k xs b F w
  stable := fun hf ⟨b, h1, h2⟩ => ⟨b, h1, h2.stable hf⟩
  lt := fun ⟨_, _, h⟩ hx => h.size hx

/-- an entry written, its blocks among its own and new ones -/
theorem AbsR.move {B : Base} {R : Nat → Prop} {φ : Nat → Nat → Prop} {ρ : Nat → Loc} {nx : Nat} {H : Heap} {S : Asn} {w w' : World} {i : Nat} {e e' : Ent} (h : AbsR B R φ ρ nx H S w) (hi : (i, e) ∈ H) (hlt : e'.lt nx) {F' : Nat → Prop}
    (hs : Step (φ i) w w') (hF : ∀ y, F' y → φ i y ∨ w.heap.size ≤ y) (he' : e'.holds ρ (ρ i) F' w') : AbsR B R (fun j => if j = i then F' else φ j) ρ nx (setH i e' H) S w' := by
  have hR : ∀ b, R b → ¬ φ i b := fun b hb hb' => h.apart _ hi b hb' hb
  have hk : ((setH i e' H).map (·.1)).Pairwise (· ≠ ·) := by rw [keys_setH]; exact List.pairwise_map.2 (h.sep.imp fun x => x.1)
  have hk' : (setH i e' H).Pairwise fun p q => p.1 ≠ q.1 ∧ True := (List.pairwise_map.1 hk).imp fun x => ⟨x, trivial⟩
  have mem : ∀ p ∈ setH i e' H, p = (i, e') ∨ (p.1 ≠ i ∧ p ∈ H) := by
    intro p hp
    obtain ⟨pi, pe⟩ := p
    by_cases hpi : pi = i
    · subst hpi
      have : pe = e' := keys_unique hk' hp (mem_setH_self hi)
      subst this
      exact .inl rfl
    · rcases mem_setH hp with ⟨h1, _⟩ | h1
      · exact absurd (by simpa using congrArg Prod.fst h1) hpi
      · exact .inr ⟨hpi, h1⟩
  refine ⟨hs.os.trans h.os, hs.tape.trans h.tape, hs.output.trans h.output, Nat.le_trans h.size hs.size, h.pin, fun b hb => Nat.lt_of_lt_of_le (h.ro b hb) hs.size,
    S.stable (fun _ hb => hb) (fun b hb => hs.block b (h.ro b hb) (hR b hb)) h.asn, ?_, ?_, ?_, ?_⟩
  · intro p hp
    rcases mem p hp with rfl | ⟨_, hp⟩
    · exact ⟨(h.key _ hi).1, hlt⟩
    · exact h.key p hp
  · intro p hp
    rcases mem p hp with rfl | ⟨hne, hp⟩
    · simp only [if_true]; exact he'
    · simp only [if_neg hne]
      exact Ent.stable (fun b hb => hs.block b (Ent.size (h.ent p hp) hb) (sep_two h.sep hp hi hne b hb)) (h.ent p hp)
  · intro p hp b hb
    rcases mem p hp with rfl | ⟨hne, hp⟩
    · simp only [if_true] at hb
      rcases hF b hb with hb | hb
      · exact h.apart _ hi b hb
      · intro hRb; have := h.ro b hRb; omega
    · simp only [if_neg hne] at hb
      exact h.apart p hp b hb
  · refine List.Pairwise.imp_of_mem (R := fun p q => p.1 ≠ q.1) (fun {p q} hp hq hpq => ⟨hpq, fun b hb hb' => ?_⟩) (List.pairwise_map.1 hk)
    rcases mem p hp with rfl | ⟨hpn, hp⟩ <;> rcases mem q hq with rfl | ⟨hqn, hq⟩
    · exact hpq rfl
    · simp only [if_true, if_neg hqn] at hb hb'
      rcases hF b hb with hb | hb
      · exact sep_two h.sep hi hq hpq b hb hb'
      · have := Ent.size (h.ent q hq) hb'; omega
    · simp only [if_true, if_neg hpn] at hb hb'
      rcases hF b hb' with hb' | hb'
      · exact sep_two h.sep hp hi hpq b hb hb'
      · have := Ent.size (h.ent p hp) hb; omega
    · simp only [if_neg hpn, if_neg hqn] at hb hb'
      exact sep_two h.sep hp hq hpq b hb hb'

theorem SliceAt.at {T TE : TypeId} {k : Nat} {xs : List (List Value)} {b : Nat} {F : Nat → Prop} {w : World} (h : SliceAt T TE k xs b F w) : F b := by
  obtain ⟨v, G, h1, h2, h3, h4⟩ := h
  exact (h2 b).2 (.inl rfl)
theorem SliceAt.cell {T TE : TypeId} {k : Nat} {xs : List (List Value)} {b : Nat} {F : Nat → Prop} {w : World} (h : SliceAt T TE k xs b F w) : ∃ (v : Loc) (G : Nat → Prop), w.cell? ⟨b, 0, none⟩ = some (.slice v.base xs.length v.cap) ∧ (∀ x, F x ↔ x = b ∨ G x) ∧ ¬ G b ∧ (Ent.rows xs k TE).holds (fun _ => v) v G w := by
  obtain ⟨v, G, h1, h2, h3, h4⟩ := h
  exact ⟨v, G, by simp [World.cell?, h1], h2, h3, h4⟩
/-- a new box of a nil slice is such a slice -/
theorem Wp.slice {cx : Cx} {c : Code} {env : Env} {H1 H2 : Heap} {S : Asn} {nx i : Nat} {K : Exit → Env → Heap → Asn → Nat → Prop} {T : TypeId} (TE : TypeId) (k : Nat) (h : Wp cx c env (H1 ++ (i, .ext (sliceO T TE k [])) :: H2) S nx K) : Wp cx c env (H1 ++ (i, .box [.c (.slice none 0 0)] T) :: H2) S nx K := by
  refine ⟨fun ρ a w hs hw => h.out ρ a w hs ?_⟩
  obtain ⟨R, φ, hw⟩ := hw
  have conv : ∀ {Q : Nat × Ent → Prop}, (∀ p ∈ H1 ++ (i, Ent.box [.c (.slice none 0 0)] T) :: H2, Q p) → Q (i, .ext (sliceO T TE k [])) → ∀ p ∈ H1 ++ (i, Ent.ext (sliceO T TE k [])) :: H2, Q p := by
    intro Q hQ hq p hp
    rcases List.mem_append.1 hp with hp | hp
    · exact hQ p (List.mem_append.2 (.inl hp))
    · rcases List.mem_cons.1 hp with rfl | hp
      · exact hq
      · exact hQ p (List.mem_append.2 (.inr (List.mem_cons_of_mem _ hp)))
  have hm : (i, Ent.box [.c (.slice none 0 0)] T) ∈ H1 ++ (i, Ent.box [.c (.slice none 0 0)] T) :: H2 := by simp
  refine ⟨R, φ, hw.os, hw.tape, hw.output, hw.size, hw.pin, hw.ro, hw.asn, conv hw.key ⟨(hw.key _ hm).1, fun x hx => by simp [Ent.hass] at hx⟩, conv hw.ent ?_, conv hw.apart (fun b hb => hw.apart _ hm b hb), ?_⟩
  · obtain ⟨b, h1, h2, h3⟩ := hw.ent _ hm
    refine ⟨b, h1, ⟨none, 0⟩, fun _ => False, by simpa [SV.rfs, SV.rf] using h3, fun x => by simp [h2 x], fun h => h, by simp, by simp, .inl ⟨rfl, rfl, fun x h => h⟩⟩
  · have e1 : ((H1 ++ (i, Ent.box [.c (.slice none 0 0)] T) :: H2).map Prod.fst).Pairwise (fun a b => a ≠ b ∧ ∀ x, φ a x → ¬ φ b x) := List.pairwise_map.2 hw.sep
    rw [List.map_append, List.map_cons] at e1
    have e2 : (H1 ++ (i, Ent.ext (sliceO T TE k [])) :: H2).map Prod.fst = H1.map Prod.fst ++ i :: H2.map Prod.fst := by rw [List.map_append, List.map_cons]
    have e3 : ((H1 ++ (i, Ent.ext (sliceO T TE k [])) :: H2).map Prod.fst).Pairwise (fun a b => a ≠ b ∧ ∀ x, φ a x → ¬ φ b x) := by rw [e2]; exact e1
    exact List.pairwise_map.1 e3
end Go.SX

/- SxZb -/
namespace Go.SX
open Go.RowKit

def byts (l : List Int) : List (List Value) := l.map fun x => [Value.int .u8 x]
theorem rows_in {TE : TypeId} {k : Nat} {xs : List (List Value)} {v : Loc} {G : Nat → Prop} {ρ : Nat → Loc} {w : World} (h : (Ent.rows xs k TE).holds ρ v G w) : RowsI w v.base k xs := by
  obtain ⟨_, hcap, h⟩ := h
  rcases h with ⟨h1, h2, _⟩ | ⟨b, off, c, h1, _, h3, h4, h5⟩
  · rw [h2] at hcap
    exact .inl (List.length_eq_zero_iff.1 (by omega))
  · refine .inr ⟨⟨b, off, none⟩, h1, fun i r hi j v hj => ?_⟩
    have := h5 i r hi j v hj
    rw [Nat.add_assoc] at this
    rw [add_none]
    simpa [World.cell?, h3] using this
end Go.SX

/- SxZc -/
namespace Go.SX
open Go.RowKit
structure RdV where
  base : Option Addr
  cap : Nat
  bs : List Int
def RdV.val (v : RdV) : Value := .slice v.base v.bs.length v.cap
def bytsD (u : RdV) : Asn := rowsA u.base 1 (byts u.bs)
/-- what is left of some bytes -/
structure Rest (u u' : RdV) : Prop where
  drop : ∃ k, u'.bs = u.bs.drop k
  room : u'.bs.length ≤ u'.cap
  data : ∀ R w, (bytsD u).holds R w → (bytsD u').holds R w
theorem Rest.trans {a b c : RdV} (h : Rest a b) (g : Rest b c) : Rest a c := by
  obtain ⟨⟨k, hk⟩, h2, h3⟩ := h
  obtain ⟨⟨j, hj⟩, g2, g3⟩ := g
  exact ⟨⟨k + j, by rw [hj, hk, List.drop_drop]⟩, g2, fun R w hh => g3 R w (h3 R w hh)⟩
theorem Rest.refl {a : RdV} (h : a.bs.length ≤ a.cap) : Rest a a := ⟨⟨0, rfl⟩, h, fun _ _ h => h⟩
theorem Rest.bytes {u u' : RdV} (h : Rest u u') (hb : ∀ x ∈ u.bs, 0 ≤ x ∧ x ≤ 255) : ∀ x ∈ u'.bs, 0 ≤ x ∧ x ≤ 255 := by
  obtain ⟨⟨k, hk⟩, _, _⟩ := h
  intro x hx
  rw [hk] at hx
  exact hb x (List.mem_of_mem_drop hx)
theorem Rest.len {u u' : RdV} (h : Rest u u') : u'.bs.length ≤ u.bs.length := by
  obtain ⟨⟨k, hk⟩, _, _⟩ := h
  rw [hk, List.length_drop]; omega
def trueA : Asn := ⟨fun _ _ => True, fun _ _ h => h⟩
end Go.SX

/- SxZd -/
namespace Go.SX
open Go.RowKit
structure doneK (K : SV → Heap → Asn → Nat → Prop) (v : SV) (H : Heap) (S : Asn) (nx : Nat) : Prop where
  out : K v H S nx
theorem done_of {K : SV → Heap → Asn → Nat → Prop} {v : SV} {H : Heap} {S : Asn} {nx : Nat} (h : K v H S nx) : doneK K v H S nx := ⟨h⟩
def inlK (cx : Cx) (rs : List ResultVar) (K : SV → Heap → Asn → Nat → Prop) : Exit → Env → Heap → Asn → Nat → Prop
  | .normal, env, H, S, nx => resK cx env H S (fun l => doneK K (oneOf l) H S nx) rs
  | .ret, env, H, S, nx => resK cx env H S (fun l => doneK K (oneOf l) H S nx) rs
  | _, _, _, _, _ => False
theorem oneOf_lt {nx : Nat} {l : List SV} (h : SV.lts nx l) : (oneOf l).lt nx := by
  match l, h with
  | [], h => exact SV.lt_tup.2 h
  | [v], h => exact SV.lts_iff.1 h v (by simp)
  | a :: b :: r, h => exact SV.lt_tup.2 h
theorem call_inline {P : Program} {B : Base} {n0 : Nat} {tab : List (Nat × TI)} (hok : ∀ p ∈ tab, mkTI P p.1 = some p.2) {f : FuncId} {fn : Func} {c : Code} {n : Nat} {rs : List ResultVar} (hf : P.funcs[f]? = some fn) (hb : fn.body = some c) (hn : fn.ntmps = n) (hrs : fn.results.toList = rs) (hen : ∀ as w, (callFunc f as).run P w = .ok (.enter f as) w)
    {args : List SV} {H : Heap} {S : Asn} {nx : Nat} {K : SV → Heap → Asn → Nat → Prop} (hlt : SV.bnds nx args = true) (hlen : args.length ≤ n) (h : Wp ⟨P, B, n, tab⟩ c (number 0 args) H S nx (inlK ⟨P, B, n, tab⟩ rs K)) : callK ⟨P, B, n0, tab⟩ f args H S nx K := by
  subst hn
  subst hrs
  rw [callK_def]
  refine ⟨hen, fun ρ w hw => ?_⟩
  refine calls_of_wp hf hb ?_
  rw [Wp_def] at h
  refine wp_mono (h ρ _ w ?_ hw) ?_
  · refine ⟨rfl, by simp [rfs_length]; omega, fun t v hv ht => ?_, fun t v hv => ?_⟩
    · obtain ⟨j, rfl, hj⟩ := number_get hv
      have hjl := (List.getElem?_eq_some_iff.1 hj).1
      simp only [Nat.zero_add]
      rw [Array.getElem?_append_left (by simp [rfs_length]; omega)]
      simp [SV.rfs_eq, hj]
    · obtain ⟨j, rfl, hj⟩ := number_get hv
      exact SV.lts_iff.1 (SV.bnds_lt hlt) v (List.mem_of_getElem? hj)
  · rintro e a' w' ⟨ρ', env', H', S', nx', h2, h3, h4, h5, h6⟩
    have fin : ∀ {Q : Prop}, (resK ⟨P, B, fn.ntmps, tab⟩ env' H' S' (fun l => doneK K (oneOf l) H' S' nx') fn.results.toList) → (a'.defers = [] ∧ ∃ v, (results fn a'.tmps).run P w' = .ok v w' ∧ ∃ u ρ'' H'' S'' nx'', Ending.returned v = .returned (u.rf ρ'') ∧ (∀ i, i < nx → ρ'' i = ρ i) ∧ nx ≤ nx'' ∧ u.lt nx'' ∧ Abs B ρ'' nx'' H'' S'' w' ∧ K u H'' S'' nx'') := by
      intro Q h6
      obtain ⟨l, g1, g2, g3⟩ := resK_spec (cx := ⟨P, B, fn.ntmps, tab⟩) hok h4 h5 h6
      refine ⟨h4.defers, _, results_run g3, oneOf l, ρ', H', S', nx', ?_, h2, h3, oneOf_lt g2, h5, g1.out⟩
      rw [oneOf_rf]
    cases e with
    | normal => exact fin (Q := True) h6
    | ret => exact fin (Q := True) h6
    | _ => exact h6.elim
end Go.SX

/- SxZe -/
namespace Go.SX
open Go.RowKit
/-- One's own rows are written no more: from here on they stay. -/
theorem Wp.freezeN {cx : Cx} {c : Code} {env : Env} {H : Heap} {S : Asn} {nx : Nat} {K : Exit → Env → Heap → Asn → Nat → Prop} (i N : Nat) {xs : List (List Value)} {k : Nat} {T : TypeId} (he : (i, Ent.rows xs k T) ∈ H) (hN : ∀ R w, S.holds R w → ∀ b, b < N → R b)
    (h : ∀ l : Loc, xs.length ≤ l.cap → Wp cx c (env.fz i l) (Heap.fz i l (delH i H)) (S.and ((rowsA l.base k xs).past N)) nx K) : Wp cx c env H S nx K := by
  simp only [Wp_def] at *
  intro ρ a w hs hw
  obtain ⟨R, φ, hw⟩ := hw
  have hent := hw.ent _ he
  obtain ⟨hr, hcap, hent'⟩ := hent
  have hdel : ∀ p ∈ delH i H, p.1 ≠ i ∧ ∀ b, φ p.1 b → ¬ φ i b := by
    have : ∀ {H : Heap}, H.Pairwise (fun p q => p.1 ≠ q.1 ∧ ∀ b, φ p.1 b → ¬ φ q.1 b) → ∀ {e : Ent}, (i, e) ∈ H → ∀ p ∈ delH i H, p.1 ≠ i ∧ ∀ b, φ p.1 b → ¬ φ i b := by
      intro H hsep
      induction H with
      | nil => intro e he; cases he
      | cons q r ih =>
        obtain ⟨hq, hr⟩ := List.pairwise_cons.1 hsep
        intro e he p hp
        obtain ⟨qi, qe⟩ := q
        unfold delH at hp
        cases hbq : Nat.beq qi i with
        | true =>
          rw [hbq, cond_true] at hp
          have := Nat.eq_of_beq_eq_true hbq
          subst this
          exact ⟨(hq p hp).1.symm, fun b hb hb' => (hq p hp).2 b hb' hb⟩
        | false =>
          rw [hbq, cond_false] at hp
          have hne := Nat.ne_of_beq_eq_false hbq
          have her : (i, e) ∈ r := (List.mem_cons.1 he).resolve_left (fun g => hne (by simpa using congrArg Prod.fst g.symm))
          rcases List.mem_cons.1 hp with g | g
          · subst g; exact ⟨hne, (hq _ her).2⟩
          · exact ih hr her p g
    exact this hw.sep he
  refine h (ρ i) hcap ρ a w ⟨hs.defers, hs.size, fun t v hv ht => ?_, fun t v hv => ?_⟩ ?_
  · obtain ⟨u, hu, rfl⟩ := Env.get_fz hv
    rw [hs.val t u hu ht, SV.rf_fz]
  · obtain ⟨u, hu, rfl⟩ := Env.get_fz hv
    exact fun x hx => hs.lt t u hu x (SV.has_fz hx)
  · have hsub := hw.drop (delH_sublist i H)
    refine ⟨fun b => R b ∨ φ i b, φ, hw.os, hw.tape, hw.output, hw.size, hw.pin, fun b hb => hb.elim (hw.ro b) (fun hb => Ent.size (hw.ent _ he) hb), ⟨S.stable (fun _ h => .inl h) (fun _ _ => rfl) hw.asn, ?_⟩, ?_, ?_, ?_, ?_⟩
    · refine ⟨hr, ?_⟩
      rcases hent' with ⟨h1, h2, _⟩ | ⟨b, off, c', h1, h2, h3, h4, h5⟩
      · simp only at hcap h2; exact .inl (List.eq_nil_of_length_eq_zero (by omega))
      · exact .inr ⟨b, off, h1, ⟨.inr ((h2 b).2 rfl), Nat.le_of_not_lt fun hb => hw.apart _ he b ((h2 b).2 rfl) (hN R w hw.asn b hb)⟩, fun m r hm j v hj => by have := h5 m r hm j v hj; rw [← Nat.add_assoc]; simpa [World.cell?, h3] using this⟩
    · rw [Heap.fz_eq]
      intro p hp
      obtain ⟨q, hq, rfl⟩ := List.mem_map.1 hp
      refine ⟨(hsub.key q hq).1, fun x hx => ?_⟩
      cases hqe : q.2 with
      | box cs T =>
        rw [hqe] at hx
        have := (hsub.key q hq).2
        rw [hqe] at this
        exact this x (SV.hass_fz hx)
      | rows xs k T => rw [hqe] at hx; simp [Ent.fz, Ent.hass] at hx
      | ext o => rw [hqe] at hx; simp [Ent.fz, Ent.hass] at hx
    · rw [Heap.fz_eq]
      intro p hp
      obtain ⟨q, hq, rfl⟩ := List.mem_map.1 hp
      have := hsub.ent q hq
      dsimp only
      cases hqe : q.2 with
      | box cs T =>
        rw [hqe] at this
        obtain ⟨b, h1, h2, h3⟩ := this
        exact ⟨b, h1, h2, by rw [SV.rfs_fz]; exact h3⟩
      | rows xs k T => rw [hqe] at this; exact this
      | ext o => rw [hqe] at this; exact this
    · rw [Heap.fz_eq]
      intro p hp b hb hb'
      obtain ⟨q, hq, rfl⟩ := List.mem_map.1 hp
      exact hb'.elim (hsub.apart q hq b hb) ((hdel q hq).2 b hb)
    · rw [Heap.fz_eq]
      exact List.pairwise_map.2 hsub.sep
end Go.SX

/- SxZf -/
namespace Go.SX
open Go.RowKit
end Go.SX

/- SxZg -/
namespace Go.SX
open Go.RowKit
end Go.SX

/- SxZh -/
namespace Go.SX
open Go.RowKit
abbrev Cell1 := Loc × List Value
def grpHolds (T : TypeId) (L : List Cell1) (F : Nat → Prop) (w : World) : Prop :=
  (∀ x, F x ↔ ∃ l ∈ L.map Prod.fst, ∃ off, l.base = some ⟨x, off, none⟩) ∧
  (L.map Prod.fst).Pairwise (fun l m => ∀ b off off', l.base = some ⟨b, off, none⟩ → m.base ≠ some ⟨b, off', none⟩) ∧
  ∀ p ∈ L, p.1.base = none ∨ ∃ b off c, p.1.base = some ⟨b, off, none⟩ ∧ w.heap[b]? = some (.cells c T (0, 0)) ∧ off + p.2.length ≤ c.size ∧ off + p.1.cap ≤ c.size ∧ ∀ (j : Nat) (v : Value), p.2[j]? = some v → c[off + j]? = some v
theorem grp_in {T : TypeId} {L : List Cell1} {F : Nat → Prop} {w : World} (h : grpHolds T L F w) {p : Cell1} (hp : p ∈ L) {b off : Nat} (hb : p.1.base = some ⟨b, off, none⟩) : F b ∧ ∃ c, w.heap[b]? = some (.cells c T (0, 0)) ∧ off + p.2.length ≤ c.size ∧ off + p.1.cap ≤ c.size ∧ ∀ (j : Nat) (v : Value), p.2[j]? = some v → c[off + j]? = some v := by
  refine ⟨(h.1 b).2 ⟨p.1, List.mem_map.2 ⟨p, hp, rfl⟩, off, hb⟩, ?_⟩
  rcases h.2.2 p hp with hn | ⟨b', off', c, h1, h2⟩
  · rw [hb] at hn; cases hn
  · rw [hb] at h1
    simp only [Option.some.injEq, Addr.mk.injEq, and_true] at h1
    obtain ⟨rfl, rfl⟩ := h1
    exact ⟨c, h2⟩
def grpO (T : TypeId) (L : List Cell1) : Own where
  holds _ F w := grpHolds T L F w
  stable := by
    intro l F w w' hw h
    refine ⟨h.1, h.2.1, fun p hp => ?_⟩
    rcases h.2.2 p hp with hn | ⟨b, off, c, h1, h2, h3, h4, h5⟩
    · exact .inl hn
    · exact .inr ⟨b, off, c, h1, (hw b (grp_in h hp h1).1).trans h2, h3, h4, h5⟩
  lt := by
    intro l F w b h hb
    obtain ⟨m, hm, off, hmb⟩ := (h.1 b).1 hb
    obtain ⟨p, hp, rfl⟩ := List.mem_map.1 hm
    obtain ⟨_, c, hc, _⟩ := grp_in h hp hmb
    exact (Array.getElem?_eq_some_iff.1 hc).1
theorem set_fst {L : List Cell1} {d : Nat} {l : Loc} {vs us : List Value} (hd : L[d]? = some (l, vs)) : (L.set d (l, us)).map Prod.fst = L.map Prod.fst := by
  rw [List.map_set]
  apply List.ext_getElem?
  intro i
  rw [List.getElem?_set]
  split
  · rename_i h
    subst h
    split
    · rw [List.getElem?_map, hd]; rfl
    · rename_i hn
      rw [List.getElem?_eq_none (by omega)]
  · rfl
/-- a store into a member -/
theorem grp_write {T : TypeId} {L : List Cell1} {F : Nat → Prop} {w : World} (h : grpHolds T L F w) {d s : Nat} {l : Loc} {vs : List Value} {b off : Nat} {v : Value} (hd : L[d]? = some (l, vs)) (hb : l.base = some ⟨b, off, none⟩) (hs : s < vs.length) :
    ∃ c, w.heap[b]? = some (.cells c T (0, 0)) ∧ off + s < c.size ∧ F b ∧ grpHolds T (L.set d (l, vs.set s v)) F (w.setRow b (setFrom c.toList (off + s) [v]).toArray) := by
  have hm := List.mem_of_getElem? hd
  obtain ⟨hF, c, hc, hsz, hcap, hcell⟩ := grp_in h hm hb
  refine ⟨c, hc, by simp only at hsz; omega, hF, by rw [set_fst hd]; exact h.1, by rw [set_fst hd]; exact h.2.1, fun p hp => ?_⟩
  obtain ⟨i, hi⟩ := List.mem_iff_getElem?.1 hp
  rw [List.getElem?_set] at hi
  have hrow := setRow_heap w b c (setFrom c.toList (off + s) [v]).toArray T (0, 0) hc
  split at hi
  · split at hi
    · have hpe : p = (l, vs.set s v) := by simpa using hi.symm
      subst hpe
      refine .inr ⟨b, off, _, hb, hrow, ?_, ?_, fun j u hj => ?_⟩
      · simpa [setFrom_length] using hsz
      · simpa [setFrom_length] using hcap
      · simp only at hj
        have e : setFrom c.toList (off + s) [v] = c.toList.set (off + s) v := by
          simp [setFrom]
        rw [e]
        rw [List.getElem?_set] at hj
        by_cases hjs : s = j
        · subst hjs
          rw [if_pos rfl, if_pos hs] at hj
          have : v = u := by simpa using hj
          subst this
          simp only [List.getElem?_toArray]
          rw [List.getElem?_set_self (by simp only at hsz; simpa using (by omega : off + s < c.size))]
        · rw [if_neg hjs] at hj
          have := hcell j u hj
          simp only [List.getElem?_toArray]
          rw [List.getElem?_set_ne (by omega)]
          simpa using this
    · cases hi
  · rename_i hne
    have hpm := List.mem_of_getElem? hi
    rcases h.2.2 p hpm with hn | ⟨b', off', c', h1, h2, h3, h4, h5⟩
    · exact .inl hn
    · have hbb : b' ≠ b := fun e => by
        subst e
        have hL1 : (L.map Prod.fst)[d]? = some l := by rw [List.getElem?_map, hd]; rfl
        have hL2 : (L.map Prod.fst)[i]? = some p.1 := by rw [List.getElem?_map, hi]; rfl
        have hpw := h.2.1
        rw [List.pairwise_iff_getElem] at hpw
        obtain ⟨g1, e1⟩ := List.getElem?_eq_some_iff.1 hL1
        obtain ⟨g2, e2⟩ := List.getElem?_eq_some_iff.1 hL2
        rcases Nat.lt_or_ge d i with hlt | hge
        · have := hpw d i g1 g2 hlt b' off off' (by rw [e1]; exact hb)
          rw [e2] at this
          exact this h1
        · have := hpw i d g2 g1 (by omega) b' off' off (by rw [e2]; exact h1)
          rw [e1] at this
          exact this hb
      exact .inr ⟨b', off', c', h1, ((step_setRow w b _).block b' (Array.getElem?_eq_some_iff.1 h2).1 hbb).trans h2, h3, h4, h5⟩
theorem wr_group {B : Base} {H : Heap} {K : Heap → Prop} {g : Nat} {T : TypeId} {L : List Cell1} {d s : Nat} {l : Loc} {vs : List Value} {b off : Nat} {v : Value} {a : Addr} (hg : (g, Ent.ext (grpO T L)) ∈ H) (hd : L[d]? = some (l, vs)) (hb : l.base = some ⟨b, off, none⟩) (hs : s < vs.length) (ha : a = ⟨b, off + s, none⟩)
    (hK : K (setH g (.ext (grpO T (L.set d (l, vs.set s v)))) H)) : wrK B a [v] H K := by
  subst ha
  refine ⟨_, fun ρ nx S w hw => ?_, hK⟩
  have hA := hw
  obtain ⟨R, φ, hw⟩ := hw
  have hent : grpHolds T L (φ g) w := hw.ent _ hg
  obtain ⟨c, hc, hlt, hF, _⟩ := grp_write (v := v) hent hd hb hs
  refine ⟨b, off + s, c, T, rfl, hc, by show off + s + 1 ≤ c.size; omega, hA.store hg (fun y hy => by simp [Ent.hass] at hy) fun F hF => ?_⟩
  obtain ⟨c', hc', hlt', hFb, hnew⟩ := grp_write (v := v) (show grpHolds T L F w from hF) hd hb hs
  rw [hc] at hc'
  obtain rfl : c = c' := by simpa using hc'
  exact ⟨⟨rfl, rfl, rfl, by simp [World.setRow], fun x hx hne => (step_setRow w b _).block x hx (fun e => hne (by rw [e]; exact hFb))⟩, hnew⟩
end Go.SX

/- SxZl -/
namespace Go.SX
open Go.RowKit
/-- a cell is not in a map's block -/
theorem cell_map {r : Nat} {m : Int → Option Value} {w w' : World} {a : Addr} {v : Value} {R : Nat → Prop} (h : mapHolds r m w) (hc : w.cell? a = some v) (hr : (restF w (fun x => x = r)).holds R w') : w'.cell? a = some v := by
  have hne : a.block ≠ r := by
    rintro rfl
    obtain ⟨es, clock, h1, _⟩ := h
    unfold World.cell? at hc
    rw [h1] at hc
    simp at hc
  rw [cell_same (hr _ ⟨cell_block hc, hne⟩).2]
  exact hc
theorem rows_map {r : Nat} {m : Int → Option Value} {w w' : World} {R : Nat → Prop} {base : Option Addr} {k : Nat} {xs : List (List Value)} (h : mapHolds r m w) (hx : RowsI w base k xs) (hr : (restF w (fun x => x = r)).holds R w') : RowsI w' base k xs := by
  rcases hx with hx | ⟨a, ha, hx⟩
  · exact .inl hx
  · exact .inr ⟨a, ha, fun i r' hi j v hj => cell_map h (hx i r' hi j v hj) hr⟩
end Go.SX

/- SxZm -/
namespace Go.SX
open Go.RowKit
/-- a fact on blocks that are none of some -/
def Asn.off (G : Nat → Prop) (D : Asn) : Asn where
  holds R w := D.holds (fun b => R b ∧ ¬ G b) w
  stable := fun hR hw h => D.stable (fun b hb => ⟨hR b hb.1, hb.2⟩) (fun b hb => hw b hb.1) h
theorem off_in {G : Nat → Prop} {D : Asn} {R : Nat → Prop} {w : World} (h : (D.off G).holds R w) : D.holds R w := D.mono h (fun b hb => hb.1)
theorem off_past {N : Nat} {G : Nat → Prop} {D : Asn} {R : Nat → Prop} {w : World} (hG : ∀ b, b < N → G b) (h : (D.off G).holds R w) : (D.past N).holds R w := D.mono h (fun b hb => ⟨hb.1, Nat.le_of_not_lt fun hl => hb.2 (hG b hl)⟩)
/-- new rows that are written no more -/
theorem own_off {i n k : Nat} {xs : List (List Value)} {T : TypeId} {H : Heap} {S : Asn} {nx : Nat} {K : SV → Heap → Asn → Nat → Prop} (G : Nat → Prop) (hG : ∀ R w, S.holds R w → ∀ b, G b → R b) (h : ∀ l : Loc, xs.length ≤ l.cap → K (.c (.slice l.base n l.cap)) H (S.and ((rowsA l.base k xs).off G)) nx) : ownK (.os i n) ((i, .rows xs k T) :: H) S nx K := by
  refine own_turn (α := { l : Loc // xs.length ≤ l.cap }) (fun l => .c (.slice l.1.base n l.1.cap)) (fun _ => H) (fun l => S.and ((rowsA l.1.base k xs).off G)) (fun B ρ w hw => ?_) (fun l => h l.1 l.2)
  obtain ⟨R, φ, hw⟩ := hw
  have hent := hw.ent _ List.mem_cons_self
  obtain ⟨hr, hcap, hent'⟩ := hent
  obtain ⟨hsep, _⟩ := List.pairwise_cons.1 hw.sep
  have hsub := hw.drop (List.sublist_cons_self _ _)
  refine ⟨⟨ρ i, hcap⟩, rfl, SV.lt_c _, fun b => R b ∨ φ i b, φ, ?_⟩
  refine ⟨hw.os, hw.tape, hw.output, hw.size, hw.pin, fun b hb => hb.elim (hw.ro b) (fun hb => Ent.size (hw.ent _ List.mem_cons_self) hb), ⟨S.stable (fun _ h => .inl h) (fun _ _ => rfl) hw.asn, hr, ?_⟩, hsub.key, hsub.ent, ?_, hsub.sep⟩
  · rcases hent' with ⟨h1, h2, _⟩ | ⟨b, off, c', h1, h2, h3, h4, h5⟩
    · simp only at hcap h2; exact .inl (List.eq_nil_of_length_eq_zero (by omega))
    · exact .inr ⟨b, off, h1, ⟨.inr ((h2 b).2 rfl), fun hb => hw.apart _ List.mem_cons_self b ((h2 b).2 rfl) (hG R w hw.asn b hb)⟩, fun m r hm j v hj => by have := h5 m r hm j v hj; rw [← Nat.add_assoc]; simpa [World.cell?, h3] using this⟩
  · intro p hp b hb hb'
    exact hb'.elim (hsub.apart p hp b hb) (fun g => (hsep p hp).2 b g hb)
def pinL (k : Nat) (ρ : Nat → Loc) : List (Nat × Loc) := (List.range k).map fun i => (i, ρ i)
theorem pin_mem {k : Nat} {ρ : Nat → Loc} {p : Nat × Loc} (h : p ∈ pinL k ρ) : p.1 < k ∧ ρ p.1 = p.2 := by
  obtain ⟨i, hi, rfl⟩ := List.mem_map.1 h
  exact ⟨List.mem_range.1 hi, rfl⟩
theorem pin_in {k i : Nat} {ρ : Nat → Loc} (h : i < k) : (i, ρ i) ∈ pinL k ρ := List.mem_map.2 ⟨i, List.mem_range.2 h, rfl⟩
/-- an object's entries, by whatever places; F: its blocks; A: what holds of the others -/
structure ObjIn (w : World) (ρ : Nat → Loc) (F : Nat → Prop) (k n0 : Nat) (H0 : Heap) (A : Asn) : Prop where
  abs : Abs ⟨w, pinL k ρ⟩ ρ n0 H0 (A.and (restF w F)) w
/-- what a call leaves that works on it -/
def ObjPost {α : Type} (w : World) (ρ : Nat → Loc) (F : Nat → Prop) (k n0 : Nat) (val : α → SV) (H1 : α → Heap) (D : α → Asn) (p : α → Prop) (e : Ending) (w' : World) : Prop :=
  ∃ x ρ', p x ∧ e = .returned ((val x).rf ρ') ∧ (val x).lt n0 ∧ Abs ⟨w, pinL k ρ⟩ ρ' n0 (H1 x) ((restF w F).and ((D x).off (othF w F))) w'
def renG (g : Nat → Option Nat) (ρ : Nat → Loc) : Nat → Loc := fun i => match g i with | some j => ρ j | none => ⟨none, 0⟩
mutual
theorem SV.rf_renG (g : Nat → Option Nat) (ρ : Nat → Loc) : ∀ v : SV, (v.ren g).rf ρ = v.rf (renG g ρ)
  | .c _ => rfl
  | .lp i j k f => by
    simp only [SV.ren, SV.rf, renG]
    cases h : g i <;> rfl
  | .os i len => by
    simp only [SV.ren, SV.rf, renG]
    cases h : g i <;> rfl
  | .agg l => by simp only [SV.ren, SV.rf]; rw [SV.rfs_renG g ρ l]
  | .tup l => by simp only [SV.ren, SV.rf]; rw [SV.rfs_renG g ρ l]
  | .fn f a b => by simp only [SV.ren, SV.rf]; rw [SV.rfs_renG g ρ a, SV.rfs_renG g ρ b]
  | .ifc t v => by simp only [SV.ren, SV.rf]; rw [SV.rf_renG g ρ v]
theorem SV.rfs_renG (g : Nat → Option Nat) (ρ : Nat → Loc) : ∀ l : List SV, SV.rfs ρ (SV.rens g l) = SV.rfs (renG g ρ) l
  | [] => rfl
  | v :: r => by simp only [SV.rens, SV.rfs]; rw [SV.rf_renG g ρ v, SV.rfs_renG g ρ r]
end
mutual
theorem SV.has_ren {g : Nat → Option Nat} {j : Nat} : ∀ {v : SV}, (v.ren g).has j = true → ∃ i, v.has i = true ∧ g i = some j
  | .c _, h => by simp [SV.ren, SV.has] at h
  | .lp i a k f, h => by
    simp only [SV.ren] at h
    cases hg : g i with
    | none => rw [hg] at h; simp [SV.has] at h
    | some x =>
      rw [hg] at h
      obtain rfl : x = j := Nat.eq_of_beq_eq_true h
      exact ⟨i, Nat.beq_refl i, hg⟩
  | .os i len, h => by
    simp only [SV.ren] at h
    cases hg : g i with
    | none => rw [hg] at h; simp [SV.has] at h
    | some x =>
      rw [hg] at h
      obtain rfl : x = j := Nat.eq_of_beq_eq_true h
      exact ⟨i, Nat.beq_refl i, hg⟩
  | .agg l, h => SV.hass_ren (l := l) h
  | .tup l, h => SV.hass_ren (l := l) h
  | .fn f a b, h => by
    simp only [SV.ren, SV.has, Bool.or_eq_true] at h
    rcases h with h | h
    · obtain ⟨i, h1, h2⟩ := SV.hass_ren h
      exact ⟨i, by simp [SV.has, h1], h2⟩
    · obtain ⟨i, h1, h2⟩ := SV.hass_ren h
      exact ⟨i, by simp [SV.has, h1], h2⟩
  | .ifc t v, h => SV.has_ren (v := v) h
theorem SV.hass_ren {g : Nat → Option Nat} {j : Nat} : ∀ {l : List SV}, SV.hass j (SV.rens g l) = true → ∃ i, SV.hass i l = true ∧ g i = some j
  | [], h => by simp [SV.rens, SV.hass] at h
  | v :: r, h => by
    simp only [SV.rens, SV.hass, Bool.or_eq_true] at h
    rcases h with h | h
    · obtain ⟨i, h1, h2⟩ := SV.has_ren h
      exact ⟨i, by simp [SV.hass, h1], h2⟩
    · obtain ⟨i, h1, h2⟩ := SV.hass_ren h
      exact ⟨i, by simp [SV.hass, h1], h2⟩
end
/-- the places an object's parts have after a call: the first k as before, the others new -/
def backG (k nx : Nat) (θ : Map) : Nat → Option Nat := fun i => bif Nat.blt i k then θ.app i else some (nx + i)
def renH (g : Nat → Option Nat) : Heap → Heap
  | [] => []
  | (i, e) :: r => ((g i).getD 0, e.ren g) :: renH g r
def lessH (θ : Map) (H0 : Heap) : Heap → Heap
  | [] => []
  | q :: r => bif H0.all (fun p => match θ.app p.1 with | some j => !Nat.beq j q.1 | none => true) then q :: lessH θ H0 r else lessH θ H0 r
theorem mem_renH {g : Nat → Option Nat} {q : Nat × Ent} : ∀ {H : Heap}, q ∈ renH g H → ∃ p ∈ H, q = ((g p.1).getD 0, p.2.ren g)
  | [], h => by cases h
  | (i, e) :: r, h => by
    rcases List.mem_cons.1 h with rfl | h
    · exact ⟨(i, e), List.mem_cons_self, rfl⟩
    · obtain ⟨p, hp, e⟩ := mem_renH h
      exact ⟨p, List.mem_cons_of_mem _ hp, e⟩
theorem mem_lessH {θ : Map} {H0 : Heap} {q : Nat × Ent} : ∀ {H : Heap}, q ∈ lessH θ H0 H → q ∈ H ∧ ∀ p ∈ H0, θ.app p.1 ≠ some q.1
  | [], h => by cases h
  | y :: r, h => by
    unfold lessH at h
    cases hb : H0.all (fun p => match θ.app p.1 with | some j => !Nat.beq j y.1 | none => true) with
    | true =>
      rw [hb] at h
      rcases List.mem_cons.1 h with rfl | h
      · refine ⟨List.mem_cons_self, fun p hp e => ?_⟩
        have := List.all_eq_true.1 hb p hp
        rw [e] at this
        simp at this
      · obtain ⟨h1, h2⟩ := mem_lessH (H := r) h
        exact ⟨List.mem_cons_of_mem _ h1, h2⟩
    | false =>
      rw [hb] at h
      obtain ⟨h1, h2⟩ := mem_lessH (H := r) h
      exact ⟨List.mem_cons_of_mem _ h1, h2⟩
theorem lessH_sub (θ : Map) (H0 : Heap) : ∀ H : Heap, (lessH θ H0 H).Sublist H
  | [] => .slnil
  | y :: r => by
    unfold lessH
    cases H0.all (fun p => match θ.app p.1 with | some j => !Nat.beq j y.1 | none => true) with
    | true => exact (lessH_sub θ H0 r).cons_cons y
    | false => exact (lessH_sub θ H0 r).cons y
theorem sep_of {φ : Nat → Nat → Prop} : ∀ {H : Heap}, H.Pairwise (fun p q => p.1 ≠ q.1 ∧ ∀ b, φ p.1 b → ¬ φ q.1 b) → ∀ {p q : Nat × Ent}, p ∈ H → q ∈ H → p.1 ≠ q.1 → ∀ b, φ p.1 b → ¬ φ q.1 b
  | [], _, p, q, hp, _, _, _, _, _ => by cases hp
  | x :: r, hs, p, q, hp, hq, hne, b, hb, hb' => by
    obtain ⟨hx, hr⟩ := List.pairwise_cons.1 hs
    rcases List.mem_cons.1 hp with gp | gp <;> rcases List.mem_cons.1 hq with gq | gq
    · exact hne (by rw [gp, gq])
    · rw [← gp] at hx; exact (hx _ gq).2 b hb hb'
    · rw [← gq] at hx; exact (hx _ gp).2 b hb' hb
    · exact sep_of hr gp gq hne b hb hb'
theorem Ent.ren_holds {g : Nat → Option Nat} {ρ : Nat → Loc} {l : Loc} {F : Nat → Prop} {w : World} {e : Ent} (h : e.holds (renG g ρ) l F w) : (e.ren g).holds ρ l F w := by
  cases e with
  | box cs T =>
    obtain ⟨b, h1, h2, h3⟩ := h
    exact ⟨b, h1, h2, by rw [SV.rfs_renG]; exact h3⟩
  | rows xs k T => exact h
  | ext o => exact h
theorem Ent.ren_lt {g : Nat → Option Nat} {n m : Nat} {e : Ent} (h : e.lt n) (hg : ∀ i j, i < n → g i = some j → j < m) : (e.ren g).lt m := by
  cases e with
  | box cs T =>
    intro j hj
    obtain ⟨i, h1, h2⟩ := SV.hass_ren hj
    exact hg i j (h i h1) h2
  | rows xs k T => exact fun j hj => by simp [Ent.ren, Ent.hass] at hj
  | ext o => exact fun j hj => by simp [Ent.ren, Ent.hass] at hj
theorem AbsR.swap {B : Base} {R : Nat → Prop} {φ : Nat → Nat → Prop} {ρ : Nat → Loc} {nx : Nat} {X Y : Heap} {S : Asn} {w : World} (h : AbsR B R φ ρ nx (X ++ Y) S w) : AbsR B R φ ρ nx (Y ++ X) S w := by
  have hm : ∀ p ∈ Y ++ X, p ∈ X ++ Y := fun p hp => List.mem_append.2 (List.mem_append.1 hp).symm
  refine ⟨h.os, h.tape, h.output, h.size, h.pin, h.ro, h.asn, fun p hp => h.key p (hm p hp), fun p hp => h.ent p (hm p hp), fun p hp => h.apart p (hm p hp), ?_⟩
  obtain ⟨h1, h2, h3⟩ := List.pairwise_append.1 h.sep
  exact List.pairwise_append.2 ⟨h2, h1, fun p hp q hq => ⟨(h3 q hq p hp).1.symm, fun b hb hb' => (h3 q hq p hp).2 b hb' hb⟩⟩
theorem call_obj {cx : Cx} {f : FuncId} {args : List SV} {H : Heap} {S : Asn} {nx : Nat} {K : SV → Heap → Asn → Nat → Prop} {α : Type} (θ : Map) (k n0 : Nat) (H0 : Heap) (A : Asn) (args0 : List SV) (val : α → SV) (H1 : α → Heap) (D : α → Asn) (p : α → Prop)
    (hf : ∀ ar w, (callFunc f ar).run cx.P w = .ok (.enter f ar) w) (hm : mapWf 0 θ H0 = true) (hwf : heapWf n0 H0 = true) (hin : heapInto θ H H0)
    (hk : ∀ i, i < k → ∃ j e, θ.app i = some j ∧ (i, e) ∈ H0) (hk0 : k ≤ n0) (ha : args = SV.rens θ.app args0) (hA : ∀ R w, S.holds R w → A.holds R w) (G : Nat → Prop) (hG : ∀ R w, S.holds R w → ∀ b, G b → R b)
    (hc : ∀ w ρ F, ObjIn w ρ F k n0 H0 A → Calls cx.P f (SV.rfs ρ args0).toArray w (ObjPost w ρ F k n0 val H1 D p))
    (h : ∀ x, p x → K ((val x).ren (backG k nx θ)) (lessH θ H0 H ++ renH (backG k nx θ) (H1 x)) (S.and ((D x).off G)) (nx + n0)) : callK cx f args H S nx K := by
  rw [callK_def]
  refine ⟨hf, fun ρ w hw => ?_⟩
  obtain ⟨R, φ, hwR⟩ := hw
  obtain ⟨hk1, hk2⟩ := heapWf_spec hwf
  obtain ⟨_, hm2⟩ := mapWf_spec hm
  have hboth := hk2.and hm2
  have himg : ∀ q ∈ H0, ∀ j, θ.app q.1 = some j → (j, q.2.ren θ.app) ∈ H := fun q hq j hj => by
    have := heapInto_spec hin hq
    rw [hj] at this
    exact this
  obtain ⟨F, hF⟩ : ∃ F : Nat → Prop, ∀ y, F y ↔ ∃ q ∈ H0, ∃ j, θ.app q.1 = some j ∧ φ j y := ⟨_, fun _ => Iff.rfl⟩
  have hFR : ∀ y, F y → ¬ R y := fun y hy hR => by
    obtain ⟨q, hq, j, hj, hy⟩ := (hF y).1 hy
    exact hwR.apart _ (himg q hq j hj) y hy hR
  have hFl : ∀ y, F y → y < w.heap.size := fun y hy => by
    obtain ⟨q, hq, j, hj, hy⟩ := (hF y).1 hy
    exact Ent.size (hwR.ent _ (himg q hq j hj)) hy
  have hobj : ObjIn w (renL θ ρ) F k n0 H0 A := by
    refine ⟨fun y => y < w.heap.size ∧ ¬ F y, fun i y => match θ.app i with | some j => φ j y | none => False, rfl, rfl, rfl, Nat.le_refl _, fun q hq => ⟨Nat.lt_of_lt_of_le (pin_mem hq).1 hk0, (pin_mem hq).2⟩, fun y hy => hy.1, ⟨A.stable (fun y hy => ⟨hwR.ro y hy, fun hf => hFR y hf hy⟩) (fun _ _ => rfl) (hA R w hwR.asn), fun y h1 => ⟨h1, rfl⟩⟩, hk1, ?_, ?_, ?_⟩
    · intro q hq
      have := heapInto_spec hin hq
      cases hj : θ.app q.1 with
      | some j =>
        rw [hj] at this
        have h1 := Ent.holds_ren (hwR.ent _ this)
        have e1 : renL θ ρ q.1 = ρ j := by simp only [renL, hj]
        rw [e1]
        simpa only [hj] using h1
      | none =>
        rw [hj] at this
        have hl : renL θ ρ q.1 = ⟨none, 0⟩ := by simp only [renL, hj]
        rw [hl]
        cases hpe : q.2 with
        | rows xs k T =>
          rw [hpe] at this
          have hx : xs = [] := this
          subst hx
          exact ⟨by simp, Nat.le_refl _, .inl ⟨rfl, rfl, fun x hx => by simp [hj] at hx⟩⟩
        | box l T => rw [hpe] at this; exact this.elim
        | ext o => rw [hpe] at this; exact this.elim
    · intro q hq y hy hR
      cases hj : θ.app q.1 with
      | some j => simp only [hj] at hy; exact hR.2 ((hF y).2 ⟨q, hq, j, hj, hy⟩)
      | none => simp only [hj] at hy
    · refine List.Pairwise.imp_of_mem (R := fun p q => p.1 ≠ q.1 ∧ ∀ a b, θ.app p.1 = some a → θ.app q.1 = some b → a ≠ b) (fun {p q} hp hq hpq => ⟨hpq.1, fun b hb hb' => ?_⟩) hboth
      cases hq1 : θ.app p.1 with
      | none => simp only [hq1] at hb
      | some j1 =>
        cases hq2 : θ.app q.1 with
        | none => simp only [hq2] at hb'
        | some j2 =>
          simp only [hq1] at hb
          simp only [hq2] at hb'
          exact sep_of hwR.sep (himg p hp j1 hq1) (himg q hq j2 hq2) (hpq.2 j1 j2 hq1 hq2) b hb hb'
  subst ha
  rw [SV.rfs_ren]
  refine (hc w (renL θ ρ) F hobj).mono ?_
  rintro e w' ⟨x, ρ', hp, rfl, hvl, R1, φ1, hw1⟩
  have hrest := hw1.asn.1
  have hpin1 : ∀ i, i < k → ∃ j, θ.app i = some j ∧ j < nx ∧ ρ' i = ρ j ∧ ∃ e, (i, e) ∈ H0 := fun i hi => by
    obtain ⟨j, e, h1, h2⟩ := hk i hi
    have h3 := (hw1.pin _ (pin_in hi)).2
    simp only at h3
    exact ⟨j, h1, (hwR.key _ (himg _ h2 j h1)).1, by rw [h3]; simp only [renL, h1], e, h2⟩
  have hstep : ∀ y, y < w.heap.size → ¬ F y → w'.heap[y]? = w.heap[y]? := fun y h1 h2 => (hrest y ⟨h1, h2⟩).2
  have hsz : w.heap.size ≤ w'.heap.size := hw1.size
  have hbB : cx.B.w0.heap.size ≤ w.heap.size := hwR.size
  obtain ⟨g, hg⟩ : ∃ g, g = backG k nx θ := ⟨_, rfl⟩
  have hglo : ∀ i, i < k → g i = θ.app i := fun i hi => by
    rw [hg]; unfold backG
    rw [show Nat.blt i k = true from Nat.ble_eq_true_of_le hi]; rfl
  have hghi : ∀ i, k ≤ i → g i = some (nx + i) := fun i hi => by
    rw [hg]; unfold backG
    cases hb : Nat.blt i k with
    | true => have := Nat.le_of_ble_eq_true hb; omega
    | false => rfl
  obtain ⟨σ, hσ⟩ : ∃ σ : Nat → Loc, σ = fun j => if j < nx then ρ j else ρ' (j - nx) := ⟨_, rfl⟩
  have hσlo : ∀ j, j < nx → σ j = ρ j := fun j hj => by rw [hσ]; simp only; rw [if_pos hj]
  have hσhi : ∀ i, σ (nx + i) = ρ' i := fun i => by rw [hσ]; simp only; rw [if_neg (by omega), Nat.add_sub_cancel_left]
  have hag : ∀ i, i < n0 → renG g σ i = ρ' i := fun i _ => by
    rcases Nat.lt_or_ge i k with hi | hi
    · obtain ⟨j, h1, h2, h3, _⟩ := hpin1 i hi
      simp only [renG, hglo i hi, h1]
      rw [hσlo j h2, h3]
    · simp only [renG, hghi i hi]
      exact hσhi i
  have hgim : ∀ i j, i < n0 → g i = some j → j < nx + n0 := fun i j h1 h2 => by
    rcases Nat.lt_or_ge i k with hi | hi
    · rw [hglo i hi] at h2
      obtain ⟨j', h3, h4, _⟩ := hpin1 i hi
      rw [h2] at h3
      obtain rfl : j = j' := by simpa using h3
      omega
    · rw [hghi i hi] at h2
      obtain rfl : nx + i = j := by simpa using h2
      omega
  have hgsome : ∀ i, ∃ j, (k ≤ i ∨ i < k) → g i = some j := fun i => by
    rcases Nat.lt_or_ge i k with hi | hi
    · obtain ⟨j, h1, _⟩ := hpin1 i hi
      exact ⟨j, fun _ => (hglo i hi).trans h1⟩
    · exact ⟨_, fun _ => hghi i hi⟩
  have hgg : ∀ i, g i = some ((g i).getD 0) := fun i => by
    obtain ⟨j, hj⟩ := hgsome i
    rw [hj (by omega)]; rfl
  -- distinct places
  have hginj : ∀ i i', i < n0 → i' < n0 → (g i).getD 0 = (g i').getD 0 → i = i' := fun i i' hi hi' e => by
    rcases Nat.lt_or_ge i k with h1 | h1 <;> rcases Nat.lt_or_ge i' k with h2 | h2
    · obtain ⟨j, g1, g2, _, e1, g3⟩ := hpin1 i h1
      obtain ⟨j', g1', g2', _, e1', g3'⟩ := hpin1 i' h2
      rw [hglo i h1, hglo i' h2, g1, g1'] at e
      have e : j = j' := e
      rcases Nat.decEq i i' with hne | heq
      · exfalso
        have key : ∀ {H : Heap}, H.Pairwise (fun p q => p.1 ≠ q.1 ∧ ∀ a b, θ.app p.1 = some a → θ.app q.1 = some b → a ≠ b) → ∀ {p q : Nat × Ent}, p ∈ H → q ∈ H → p.1 ≠ q.1 → ∀ a b, θ.app p.1 = some a → θ.app q.1 = some b → a ≠ b := by
          intro H hs
          induction H with
          | nil => intro p q hp; cases hp
          | cons x r ih =>
            obtain ⟨hx, hr⟩ := List.pairwise_cons.1 hs
            intro p q hp hq hne a b ha hb
            rcases List.mem_cons.1 hp with gp | gp <;> rcases List.mem_cons.1 hq with gq | gq
            · exact absurd (by rw [gp, gq]) hne
            · rw [← gp] at hx; exact (hx _ gq).2 a b ha hb
            · rw [← gq] at hx; exact fun e => (hx _ gp).2 b a hb ha e.symm
            · exact ih hr gp gq hne a b ha hb
        exact key hboth g3 g3' hne j j' g1 g1' e
      · exact heq
    · obtain ⟨j, g1, g2, _⟩ := hpin1 i h1
      rw [hglo i h1, hghi i' h2, g1] at e
      have e : j = nx + i' := e
      omega
    · obtain ⟨j, g1, g2, _⟩ := hpin1 i' h2
      rw [hglo i' h2, hghi i h1, g1] at e
      have e : nx + i = j := e
      omega
    · rw [hghi i h1, hghi i' h2] at e
      have e : nx + i = nx + i' := e
      omega
  obtain ⟨ψ, hψ⟩ : ∃ ψ : Nat → Nat → Prop, ∀ j y, ψ j y ↔ ((∃ i, i < n0 ∧ g i = some j ∧ φ1 i y) ∨ ((∀ i, i < n0 → g i ≠ some j) ∧ φ j y)) := ⟨fun j y => _, fun _ _ => Iff.rfl⟩
  have hψ1 : ∀ i y, i < n0 → (ψ ((g i).getD 0) y ↔ φ1 i y) := fun i y hi => by
    rw [hψ]
    constructor
    · rintro (⟨i', h1, h2, h3⟩ | ⟨h1, _⟩)
      · have : (g i').getD 0 = (g i).getD 0 := by rw [h2]; rfl
        rw [hginj i' i h1 hi this] at h3
        exact h3
      · exact absurd (hgg i) (h1 i hi)
    · exact fun h => .inl ⟨i, hi, hgg i, h⟩
  have hψ2 : ∀ q ∈ lessH θ H0 H, ∀ y, ψ q.1 y ↔ φ q.1 y := fun q hq y => by
    obtain ⟨h1, h2⟩ := mem_lessH hq
    have hlt := (hwR.key _ h1).1
    have hno : ∀ i, i < n0 → g i ≠ some q.1 := fun i hi e => by
      rcases Nat.lt_or_ge i k with hik | hik
      · obtain ⟨j, g1, _, _, e1, g3⟩ := hpin1 i hik
        rw [hglo i hik] at e
        exact h2 _ g3 e
      · rw [hghi i hik] at e
        have : nx + i = q.1 := by simpa using e
        omega
    rw [hψ]
    exact ⟨fun h => h.elim (fun ⟨i, a, b, _⟩ => absurd b (hno i a)) (fun h => h.2), fun h => .inr ⟨hno, h⟩⟩
  have hlessF : ∀ q ∈ lessH θ H0 H, ∀ y, φ q.1 y → ¬ F y := fun q hq y hy hf => by
    obtain ⟨h1, h2⟩ := mem_lessH hq
    obtain ⟨q', hq', j, hj, hy'⟩ := (hF y).1 hf
    exact sep_of hwR.sep (himg q' hq' j hj) h1 (fun e => h2 q' hq' (by rw [hj]; exact congrArg some e)) y hy' hy
  refine ⟨_, σ, _, _, nx + n0, ?_, hσlo, Nat.le_add_right _ _, ?_, ?_, h x hp⟩
  · rw [← hg, SV.rf_renG]
    exact congrArg Ending.returned (SV.rf_lt hvl fun i hi => (hag i hi).symm)
  · rw [← hg]
    intro j hj
    obtain ⟨i, h1, h2⟩ := SV.has_ren hj
    exact hgim i j (hvl i h1) h2
  · rw [← hg]
    refine ⟨fun y => R y ∨ (¬ othF w F y ∧ R1 y), ψ, AbsR.swap (X := renH g (H1 x)) ⟨hw1.os.trans hwR.os, hw1.tape.trans hwR.tape, hw1.output.trans hwR.output, Nat.le_trans hbB hsz, fun q hq => ⟨Nat.lt_of_lt_of_le (hwR.pin q hq).1 (Nat.le_add_right _ _), by rw [hσlo _ (hwR.pin q hq).1]; exact (hwR.pin q hq).2⟩, fun y hy => hy.elim (fun h => Nat.lt_of_lt_of_le (hwR.ro y h) hsz) (fun h => hw1.ro y h.2), ⟨?_, ?_⟩, ?_, ?_, ?_, ?_⟩⟩
    · exact S.stable (fun y hy => .inl hy) (fun y hy => hstep y (hwR.ro y hy) (fun hf => hFR y hf hy)) hwR.asn
    · exact (D x).stable (fun y hy => ⟨.inr ⟨hy.2, hy.1⟩, fun hg => hy.2 ⟨hwR.ro y (hG R w hwR.asn y hg), fun hf => hFR y hf (hG R w hwR.asn y hg)⟩⟩) (fun _ _ => rfl) hw1.asn.2
    · intro q hq
      rcases List.mem_append.1 hq with hq | hq
      · obtain ⟨r, hr, rfl⟩ := mem_renH hq
        obtain ⟨h1, h2⟩ := hw1.key r hr
        exact ⟨hgim _ _ h1 (hgg r.1), Ent.ren_lt h2 hgim⟩
      · obtain ⟨h1, h2⟩ := hwR.key q (mem_lessH hq).1
        exact ⟨Nat.lt_of_lt_of_le h1 (Nat.le_add_right _ _), fun i hi => Nat.lt_of_lt_of_le (h2 i hi) (Nat.le_add_right _ _)⟩
    · intro q hq
      rcases List.mem_append.1 hq with hq | hq
      · obtain ⟨r, hr, rfl⟩ := mem_renH hq
        obtain ⟨h1, h2⟩ := hw1.key r hr
        have e1 : σ ((g r.1).getD 0) = ρ' r.1 := by
          rw [← hag r.1 h1]
          simp only [renG]
          rw [hgg r.1]; rfl
        have e2 : ψ ((g r.1).getD 0) = φ1 r.1 := by funext y; exact propext (hψ1 r.1 y h1)
        simp only
        rw [e1, e2]
        exact Ent.ren_holds (Ent.holds_congr (fun i hi => (hag i (h2 i hi)).symm) (hw1.ent r hr))
      · obtain ⟨h1, h2⟩ := mem_lessH hq
        obtain ⟨k1, k2⟩ := hwR.key q h1
        have e2 : ψ q.1 = φ q.1 := by funext y; exact propext (hψ2 q hq y)
        rw [hσlo _ k1, e2]
        refine Ent.holds_congr (fun i hi => (hσlo i (k2 i hi)).symm) (Ent.stable (fun y hy => hstep y (Ent.size (hwR.ent _ h1) hy) (hlessF q hq y hy)) (hwR.ent _ h1))
    · intro q hq y hy hR
      rcases List.mem_append.1 hq with hq | hq
      · obtain ⟨r, hr, rfl⟩ := mem_renH hq
        have hy := (hψ1 r.1 y (hw1.key r hr).1).1 hy
        refine hw1.apart r hr y hy ?_
        rcases hR with hR | hR
        · exact (hrest y ⟨hwR.ro y hR, fun hf => hFR y hf hR⟩).1
        · exact hR.2
      · have hy := (hψ2 q hq y).1 hy
        have h1 := (mem_lessH hq).1
        rcases hR with hR | hR
        · exact hwR.apart _ h1 y hy hR
        · exact hR.1 ⟨Ent.size (hwR.ent _ h1) hy, hlessF q hq y hy⟩
    · refine List.pairwise_append.2 ⟨?_, ?_, ?_⟩
      · have key : ∀ {L : Heap}, (∀ r ∈ L, r ∈ H1 x) → L.Pairwise (fun p q => p.1 ≠ q.1 ∧ ∀ b, φ1 p.1 b → ¬ φ1 q.1 b) → (renH g L).Pairwise (fun p q => p.1 ≠ q.1 ∧ ∀ b, ψ p.1 b → ¬ ψ q.1 b) := by
          intro L
          induction L with
          | nil => exact fun _ _ => .nil
          | cons r L ih =>
            obtain ⟨i, e⟩ := r
            intro hL hs
            obtain ⟨hx, hr⟩ := List.pairwise_cons.1 hs
            have hi := (hw1.key _ (hL _ List.mem_cons_self)).1
            refine List.pairwise_cons.2 ⟨fun q hq => ?_, ih (fun r hr => hL r (List.mem_cons_of_mem _ hr)) hr⟩
            obtain ⟨r', hr', rfl⟩ := mem_renH hq
            have hi' := (hw1.key _ (hL _ (List.mem_cons_of_mem _ hr'))).1
            obtain ⟨hne, hd⟩ := hx r' hr'
            exact ⟨fun e => hne (hginj i r'.1 hi hi' e), fun b hb hb' => hd b ((hψ1 i b hi).1 hb) ((hψ1 r'.1 b hi').1 hb')⟩
        exact key (fun r hr => hr) hw1.sep
      · refine List.Pairwise.imp_of_mem (fun {p q} hp hq hpq => ⟨hpq.1, fun b hb hb' => hpq.2 b ((hψ2 p hp b).1 hb) ((hψ2 q hq b).1 hb')⟩) (hwR.sep.sublist (lessH_sub θ H0 H))
      · intro q hq q' hq'
        obtain ⟨r, hr, rfl⟩ := mem_renH hq
        obtain ⟨h1, h2⟩ := mem_lessH hq'
        have hi := (hw1.key r hr).1
        refine ⟨fun e => ?_, fun b hb hb' => ?_⟩
        · have hlt := (hwR.key _ h1).1
          have e : (g r.1).getD 0 = q'.1 := e
          rcases Nat.lt_or_ge r.1 k with hik | hik
          · obtain ⟨j, g1, _, _, e1, g3⟩ := hpin1 r.1 hik
            rw [hglo _ hik, g1] at e
            have e : j = q'.1 := e
            exact h2 _ g3 (by rw [g1, e])
          · rw [hghi _ hik] at e
            have e : nx + r.1 = q'.1 := e
            omega
        · have hb := (hψ1 r.1 b hi).1 hb
          have hb' := (hψ2 q' hq' b).1 hb'
          exact hw1.apart r hr b hb (hrest b ⟨Ent.size (hwR.ent _ h1) hb', hlessF q' hq' b hb'⟩).1
/-- at a method's end -/
theorem obj_end {α : Type} {w : World} {ρ0 : Nat → Loc} {F : Nat → Prop} {k n0 nx : Nat} {v : SV} {H : Heap} {S : Asn} (val : α → SV) (H1 : α → Heap) (D : α → Asn) (p : α → Prop) (x : α) (θ : Map) (hp : p x) (hk : k ≤ n0) (hv : v = (val x).ren θ.app) (hvl : (val x).bnd n0 = true) (hh : heapWf n0 (H1 x) = true)
    (hm : mapWf k θ (H1 x) = true) (hi : heapInto θ H (H1 x)) (hS : ∀ R w', S.holds R w' → (restF w F).holds R w' ∧ ((D x).off (othF w F)).holds R w') : finK ⟨w, pinL k ρ0⟩ v H S nx (ObjPost w ρ0 F k n0 val H1 D p) := by
  refine fin_of fun ρ w' hw => ?_
  have hpin : ∀ q ∈ pinL k ρ0, q.1 < k := fun q hq => (pin_mem hq).1
  obtain ⟨hm1, hm2⟩ := mapWf_spec hm
  have hlow : ∀ i, i < k → renL θ ρ i = ρ i := fun i hi => by simp only [renL, Map.app_lt hm1 hi]
  obtain ⟨R, φ, hw⟩ := hw
  obtain ⟨hk1, hk2⟩ := heapWf_spec hh
  have hboth := hk2.and hm2
  refine ⟨x, renL θ ρ, hp, by rw [hv, SV.rf_ren], SV.bnd_lt hvl, R, fun i y => match θ.app i with | some j => φ j y | none => False, hw.os, hw.tape, hw.output, hw.size, fun q hq => ⟨Nat.lt_of_lt_of_le (hpin q hq) hk, by rw [hlow _ (hpin q hq)]; exact (hw.pin q hq).2⟩, hw.ro, hS R w' hw.asn, hk1, ?_, ?_, ?_⟩
  · intro q hq
    have := heapInto_spec hi hq
    cases hj : θ.app q.1 with
    | some j =>
      rw [hj] at this
      have h1 := Ent.holds_ren (hw.ent _ this)
      have e1 : renL θ ρ q.1 = ρ j := by simp only [renL, hj]
      rw [e1]
      simpa only [hj] using h1
    | none =>
      rw [hj] at this
      have hl : renL θ ρ q.1 = ⟨none, 0⟩ := by simp only [renL, hj]
      rw [hl]
      cases hpe : q.2 with
      | rows xs k T =>
        rw [hpe] at this
        have hx : xs = [] := this
        subst hx
        exact ⟨by simp, Nat.le_refl _, .inl ⟨rfl, rfl, fun x hx => by simp [hj] at hx⟩⟩
      | box l T => rw [hpe] at this; exact this.elim
      | ext o => rw [hpe] at this; exact this.elim
  · intro q hq y hy
    have := heapInto_spec hi hq
    cases hj : θ.app q.1 with
    | some j =>
      rw [hj] at this
      simp only [hj] at hy
      exact hw.apart _ this y hy
    | none => simp only [hj] at hy
  · refine List.Pairwise.imp_of_mem (R := fun p q => p.1 ≠ q.1 ∧ ∀ a b, θ.app p.1 = some a → θ.app q.1 = some b → a ≠ b) (fun {p q} hp hq hpq => ⟨hpq.1, fun b hb hb' => ?_⟩) hboth
    have h1 := heapInto_spec hi hp
    have h2 := heapInto_spec hi hq
    cases hq1 : θ.app p.1 with
    | none => simp only [hq1] at hb
    | some j1 =>
      cases hq2 : θ.app q.1 with
      | none => simp only [hq2] at hb'
      | some j2 =>
        rw [hq1] at h1
        rw [hq2] at h2
        simp only [hq1] at hb
        simp only [hq2] at hb'
        exact sep_of hw.sep h1 h2 (hpq.2 j1 j2 hq1 hq2) b hb hb'
/-- One's own rows are written no more: from here on they stay. -/
theorem Wp.freezeG {cx : Cx} {c : Code} {env : Env} {H : Heap} {S : Asn} {nx : Nat} {K : Exit → Env → Heap → Asn → Nat → Prop} (i : Nat) (G : Nat → Prop) {xs : List (List Value)} {k : Nat} {T : TypeId} (he : (i, Ent.rows xs k T) ∈ H) (hG : ∀ R w, S.holds R w → ∀ b, G b → R b)
    (h : ∀ l : Loc, xs.length ≤ l.cap → Wp cx c (env.fz i l) (Heap.fz i l (delH i H)) (S.and ((rowsA l.base k xs).off G)) nx K) : Wp cx c env H S nx K := by
  simp only [Wp_def] at *
  intro ρ a w hs hw
  obtain ⟨R, φ, hw⟩ := hw
  have hent := hw.ent _ he
  obtain ⟨hr, hcap, hent'⟩ := hent
  have hdel : ∀ p ∈ delH i H, p.1 ≠ i ∧ ∀ b, φ p.1 b → ¬ φ i b := by
    have : ∀ {H : Heap}, H.Pairwise (fun p q => p.1 ≠ q.1 ∧ ∀ b, φ p.1 b → ¬ φ q.1 b) → ∀ {e : Ent}, (i, e) ∈ H → ∀ p ∈ delH i H, p.1 ≠ i ∧ ∀ b, φ p.1 b → ¬ φ i b := by
      intro H hsep
      induction H with
      | nil => intro e he; cases he
      | cons q r ih =>
        obtain ⟨hq, hr⟩ := List.pairwise_cons.1 hsep
        intro e he p hp
        obtain ⟨qi, qe⟩ := q
        unfold delH at hp
        cases hbq : Nat.beq qi i with
        | true =>
          rw [hbq, cond_true] at hp
          have := Nat.eq_of_beq_eq_true hbq
          subst this
          exact ⟨(hq p hp).1.symm, fun b hb hb' => (hq p hp).2 b hb' hb⟩
        | false =>
          rw [hbq, cond_false] at hp
          have hne := Nat.ne_of_beq_eq_false hbq
          have her : (i, e) ∈ r := (List.mem_cons.1 he).resolve_left (fun g => hne (by simpa using congrArg Prod.fst g.symm))
          rcases List.mem_cons.1 hp with g | g
          · subst g; exact ⟨hne, (hq _ her).2⟩
          · exact ih hr her p g
    exact this hw.sep he
  refine h (ρ i) hcap ρ a w ⟨hs.defers, hs.size, fun t v hv ht => ?_, fun t v hv => ?_⟩ ?_
  · obtain ⟨u, hu, rfl⟩ := Env.get_fz hv
    rw [hs.val t u hu ht, SV.rf_fz]
  · obtain ⟨u, hu, rfl⟩ := Env.get_fz hv
    exact fun x hx => hs.lt t u hu x (SV.has_fz hx)
  · have hsub := hw.drop (delH_sublist i H)
    refine ⟨fun b => R b ∨ φ i b, φ, hw.os, hw.tape, hw.output, hw.size, hw.pin, fun b hb => hb.elim (hw.ro b) (fun hb => Ent.size (hw.ent _ he) hb), ⟨S.stable (fun _ h => .inl h) (fun _ _ => rfl) hw.asn, ?_⟩, ?_, ?_, ?_, ?_⟩
    · refine ⟨hr, ?_⟩
      rcases hent' with ⟨h1, h2, _⟩ | ⟨b, off, c', h1, h2, h3, h4, h5⟩
      · simp only at hcap h2; exact .inl (List.eq_nil_of_length_eq_zero (by omega))
      · exact .inr ⟨b, off, h1, ⟨.inr ((h2 b).2 rfl), fun hb => hw.apart _ he b ((h2 b).2 rfl) (hG R w hw.asn b hb)⟩, fun m r hm j v hj => by have := h5 m r hm j v hj; rw [← Nat.add_assoc]; simpa [World.cell?, h3] using this⟩
    · rw [Heap.fz_eq]
      intro p hp
      obtain ⟨q, hq, rfl⟩ := List.mem_map.1 hp
      refine ⟨(hsub.key q hq).1, fun x hx => ?_⟩
      cases hqe : q.2 with
      | box cs T =>
        rw [hqe] at hx
        have := (hsub.key q hq).2
        rw [hqe] at this
        exact this x (SV.hass_fz hx)
      | rows xs k T => rw [hqe] at hx; simp [Ent.fz, Ent.hass] at hx
      | ext o => rw [hqe] at hx; simp [Ent.fz, Ent.hass] at hx
    · rw [Heap.fz_eq]
      intro p hp
      obtain ⟨q, hq, rfl⟩ := List.mem_map.1 hp
      have := hsub.ent q hq
      dsimp only
      cases hqe : q.2 with
      | box cs T =>
        rw [hqe] at this
        obtain ⟨b, h1, h2, h3⟩ := this
        exact ⟨b, h1, h2, by rw [SV.rfs_fz]; exact h3⟩
      | rows xs k T => rw [hqe] at this; exact this
      | ext o => rw [hqe] at this; exact this
    · rw [Heap.fz_eq]
      intro p hp b hb hb'
      obtain ⟨q, hq, rfl⟩ := List.mem_map.1 hp
      exact hb'.elim (hsub.apart q hq b hb) ((hdel q hq).2 b hb)
    · rw [Heap.fz_eq]
      exact List.pairwise_map.2 hsub.sep
end Go.SX

/- SxZi -/
namespace Go.SX
open Go.RowKit
def oneRows (vs : List Value) : List (List Value) := vs.map fun v => [v]
/-- a new block goes into the group -/
theorem grp_add {T : TypeId} {L : List Cell1} {F G : Nat → Prop} {w : World} (h : grpHolds T L F w) {d : Nat} {l : Loc} {us vs : List Value} {l0 : Loc} (hd : L[d]? = some (l0, us)) (hn : l0.base = none) (hr : (Ent.rows (oneRows vs) 1 T).holds (fun _ => l) l G w) (hpos : 0 < vs.length) (hap : ∀ b, F b → ¬ G b) :
    grpHolds T (L.set d (l, vs)) (fun b => F b ∨ G b) w ∧ ∃ b off, l.base = some ⟨b, off, none⟩ := by
  obtain ⟨_, hcap, hent⟩ := hr
  have hlen : (oneRows vs).length = vs.length := by simp [oneRows]
  rcases hent with ⟨hb, hc0, _⟩ | ⟨b, off, c, hb, hG, hc, hsz, hcell⟩
  · exfalso; rw [hlen] at hcap; omega
  rw [hlen] at hcap
  have hdl : d < L.length := (List.getElem?_eq_some_iff.1 hd).1
  have hmap : (L.set d (l, vs)).map Prod.fst = (L.map Prod.fst).set d l := by rw [List.map_set]
  have hLd : (L.map Prod.fst)[d]? = some l0 := by rw [List.getElem?_map, hd]; rfl
  have hmem : ∀ m : Loc, m ∈ (L.map Prod.fst).set d l ↔ m = l ∨ ∃ i, i ≠ d ∧ (L.map Prod.fst)[i]? = some m := fun m => by
    constructor
    · intro hm
      obtain ⟨i, hi⟩ := List.mem_iff_getElem?.1 hm
      rw [List.getElem?_set] at hi
      split at hi
      · split at hi
        · exact .inl (by simpa using hi.symm)
        · cases hi
      · rename_i hne
        exact .inr ⟨i, fun e => hne e.symm, hi⟩
    · rintro (rfl | ⟨i, hne, hi⟩)
      · exact List.mem_iff_getElem?.2 ⟨d, by rw [List.getElem?_set_self (by simpa using hdl)]⟩
      · exact List.mem_iff_getElem?.2 ⟨i, by rw [List.getElem?_set_ne (fun e => hne e.symm)]; exact hi⟩
  refine ⟨⟨fun x => ?_, ?_, fun p hp => ?_⟩, b, off, hb⟩
  · rw [hmap]
    constructor
    · rintro (hx | hx)
      · obtain ⟨m, hm, o, ho⟩ := (h.1 x).1 hx
        obtain ⟨i, hi⟩ := List.mem_iff_getElem?.1 hm
        refine ⟨m, (hmem m).2 (.inr ⟨i, fun e => ?_, hi⟩), o, ho⟩
        subst e
        rw [hLd] at hi
        have : l0 = m := by simpa using hi
        subst this
        rw [hn] at ho; cases ho
      · obtain rfl := (hG x).1 hx
        exact ⟨l, (hmem l).2 (.inl rfl), off, hb⟩
    · rintro ⟨m, hm, o, ho⟩
      rcases (hmem m).1 hm with rfl | ⟨i, _, hi⟩
      · rw [hb] at ho
        simp only [Option.some.injEq, Addr.mk.injEq, and_true] at ho
        exact .inr ((hG x).2 ho.1.symm)
      · exact .inl ((h.1 x).2 ⟨m, List.mem_of_getElem? hi, o, ho⟩)
  · rw [hmap, List.pairwise_iff_getElem]
    have hpw := h.2.1
    rw [List.pairwise_iff_getElem] at hpw
    have hother : ∀ (k : Nat) (hk : k < (L.map Prod.fst).length) (x o : Nat), (L.map Prod.fst)[k].base = some ⟨x, o, none⟩ → x ≠ b := fun k hk x o ho e => by
      subst e
      exact hap x ((h.1 x).2 ⟨_, List.getElem_mem hk, o, ho⟩) ((hG x).2 rfl)
    intro i j hi hj hij x o o' h1 h2
    rw [List.length_set] at hi hj
    rw [List.getElem_set] at h1 h2
    by_cases e1 : d = i
    · rw [if_pos e1] at h1
      rw [if_neg (by omega)] at h2
      rw [hb] at h1
      simp only [Option.some.injEq, Addr.mk.injEq, and_true] at h1
      exact hother j hj x o' h2 h1.1.symm
    · rw [if_neg e1] at h1
      by_cases e2 : d = j
      · rw [if_pos e2, hb] at h2
        simp only [Option.some.injEq, Addr.mk.injEq, and_true] at h2
        exact hother i hi x o h1 h2.1.symm
      · rw [if_neg e2] at h2
        exact hpw i j hi hj hij x o o' h1 h2
  · obtain ⟨i, hi⟩ := List.mem_iff_getElem?.1 hp
    rw [List.getElem?_set] at hi
    split at hi
    · have hpe : p = (l, vs) := by first | (simpa using hi.symm) | (split at hi; · simpa using hi.symm; · cases hi)
      subst hpe
      refine .inr ⟨b, off, c, hb, hc, by simp only at hcap ⊢; omega, by simp only at hsz ⊢; omega, fun j v hj => ?_⟩
      have := hcell j [v] (by simp only at hj; rw [oneRows, List.getElem?_map, hj]; rfl) 0 v rfl
      simpa using this
    · exact h.2.2 p (List.mem_of_getElem? hi)
theorem own_group {i n g d : Nat} {us vs : List Value} {l0 : Loc} {T T' : TypeId} {L : List Cell1} {H : Heap} {S : Asn} {nx : Nat} {K : SV → Heap → Asn → Nat → Prop} (hg : (g, Ent.ext (grpO T L)) ∈ H) (hd : L[d]? = some (l0, us)) (hn : l0.base = none) (hT : T' = T) {rs : List (List Value)} (hrs : rs = oneRows vs) (hpos : 0 < vs.length)
    (h : ∀ l : Loc, vs.length ≤ l.cap → (∃ b off, l.base = some ⟨b, off, none⟩) → K (.c (.slice l.base n l.cap)) (setH g (.ext (grpO T (L.set d (l, vs)))) H) S nx) : ownK (.os i n) ((i, .rows rs 1 T') :: H) S nx K := by
  subst hT hrs
  refine own_turn (α := { l : Loc // vs.length ≤ l.cap ∧ ∃ b off, l.base = some ⟨b, off, none⟩ }) (fun l => .c (.slice l.1.base n l.1.cap)) (fun l => setH g (.ext (grpO T' (L.set d (l.1, vs)))) H) (fun _ => S) ?_ (fun l => h l.1 l.2.1 l.2.2)
  intro B ρ w hA
  obtain ⟨R, φ, hw⟩ := hA
  obtain ⟨hsep, hsepH⟩ := List.pairwise_cons.1 hw.sep
  have hrow := hw.ent _ List.mem_cons_self
  have hgrp : grpHolds T' L (φ g) w := hw.ent _ (List.mem_cons_of_mem _ hg)
  have hgi : ∀ b, φ g b → ¬ φ i b := fun b h1 h2 => (hsep _ hg).2 b h2 h1
  have hrow' : (Ent.rows (oneRows vs) 1 T').holds (fun _ => ρ i) (ρ i) (φ i) w := hrow
  obtain ⟨hnew, hbase⟩ := grp_add hgrp hd hn hrow' hpos hgi
  have hcap : vs.length ≤ (ρ i).cap := by have := hrow.2.1; simpa [oneRows] using this
  refine ⟨⟨ρ i, hcap, hbase⟩, rfl, SV.lt_c _, R, fun k b => if k = g then φ g b ∨ φ i b else φ k b, ?_⟩
  have hsub := hw.drop (List.sublist_cons_self _ _)
  refine ⟨hw.os, hw.tape, hw.output, hw.size, hw.pin, hw.ro, hw.asn, ?_, ?_, ?_, ?_⟩
  · intro p hp
    rcases mem_setH hp with ⟨rfl, _⟩ | hp
    · exact ⟨(hsub.key _ hg).1, fun y hy => by simp [Ent.hass] at hy⟩
    · exact hsub.key p hp
  · intro p hp
    by_cases hpg : p.1 = g
    · obtain ⟨pi, pe⟩ := p
      simp only at hpg
      subst hpg
      have hk : (setH pi (.ext (grpO T' (L.set d (ρ i, vs)))) H).Pairwise fun p q => p.1 ≠ q.1 ∧ True := by
        have : ((setH pi (.ext (grpO T' (L.set d (ρ i, vs)))) H).map (·.1)).Pairwise (· ≠ ·) := by
          rw [keys_setH]; exact List.pairwise_map.2 (hsepH.imp fun x => x.1)
        exact (List.pairwise_map.1 this).imp fun x => ⟨x, trivial⟩
      have h2 : pe = .ext (grpO T' (L.set d (ρ i, vs))) := keys_unique hk hp (mem_setH_self hg)
      subst h2
      show grpHolds T' (L.set d (ρ i, vs)) _ w
      simp only [if_pos rfl]
      exact hnew
    · have hpH : p ∈ H := by
        rcases mem_setH hp with ⟨rfl, _⟩ | hp'
        · exact absurd rfl hpg
        · exact hp'
      have := hsub.ent p hpH
      simp only [if_neg hpg]
      exact this
  · intro p hp b hb
    have hpk : p.1 ∈ H.map (·.1) := by
      have : p.1 ∈ (setH g (.ext (grpO T' (L.set d (ρ i, vs)))) H).map (·.1) := List.mem_map.2 ⟨p, hp, rfl⟩
      rwa [keys_setH] at this
    obtain ⟨q, hq, hqe⟩ := List.mem_map.1 hpk
    by_cases hpg : p.1 = g
    · simp only [if_pos hpg] at hb
      rcases hb with hb | hb
      · exact hsub.apart _ hg b hb
      · exact hw.apart _ List.mem_cons_self b hb
    · simp only [if_neg hpg] at hb
      exact hsub.apart q hq b (by rw [hqe]; exact hb)
  · have hkeys : (H.map (·.1)).Pairwise (fun a b => a ≠ b ∧ ∀ x, φ a x → ¬ φ b x) := List.pairwise_map.2 hsepH
    have hi : ∀ a ∈ H.map (·.1), ∀ x, φ i x → ¬ φ a x := fun a ha x hx => by
      obtain ⟨q, hq, rfl⟩ := List.mem_map.1 ha
      exact (hsep q hq).2 x hx
    have : ((setH g (.ext (grpO T' (L.set d (ρ i, vs)))) H).map (·.1)).Pairwise (fun a b => a ≠ b ∧ ∀ x, (if a = g then φ g x ∨ φ i x else φ a x) → ¬ (if b = g then φ g x ∨ φ i x else φ b x)) := by
      rw [keys_setH]
      refine hkeys.imp_of_mem fun {a b} ha hb hab => ⟨hab.1, fun x hx hx' => ?_⟩
      by_cases e1 : a = g
      · rw [if_pos e1] at hx
        have e2 : b ≠ g := fun e => hab.1 (e1.trans e.symm)
        rw [if_neg e2] at hx'
        rcases hx with hx | hx
        · exact hab.2 x (by rw [e1]; exact hx) hx'
        · exact hi b hb x hx hx'
      · rw [if_neg e1] at hx
        by_cases e2 : b = g
        · rw [if_pos e2] at hx'
          rcases hx' with hx' | hx'
          · exact hab.2 x hx (by rw [e2]; exact hx')
          · exact hi a ha x hx' hx
        · rw [if_neg e2] at hx'
          exact hab.2 x hx hx'
    exact List.pairwise_map.1 this
end Go.SX

/- SxZj -/
namespace Go.SX
open Go.RowKit
/-- a group of nil slices -/
theorem Wp.grp {cx : Cx} {c : Code} {env : Env} {H : Heap} {S : Asn} {nx : Nat} {K : Exit → Env → Heap → Asn → Nat → Prop} (T : TypeId) (n : Nat) (h : Wp cx c env ((nx, .ext (grpO T (List.replicate n (⟨none, 0⟩, [])))) :: H) S (nx + 1) K) : Wp cx c env H S nx K := by
  simp only [Wp_def] at *
  intro ρ a w hs hw
  obtain ⟨R, φ, hwR⟩ := hw
  refine wp_mono (h (upd ρ nx ⟨none, 0⟩) a w ⟨hs.defers, hs.size, fun t v hv ht => ?_, fun t v hv => (hs.lt t v hv).mono (Nat.le_succ _)⟩ ⟨R, _, hwR.add (F := fun _ => False) (fun y hy => by simp [Ent.hass] at hy) ?_ (fun _ hb => hb.elim) (fun _ _ _ _ hb => hb)⟩) ?_
  · rw [hs.val t v hv ht]
    exact congrArg some (SV.rf_lt (ρ := ρ) (ρ' := upd ρ nx ⟨none, 0⟩) (hs.lt t v hv) fun i hi => (upd_lt hi).symm)
  · show grpHolds T _ _ w
    have hn : ∀ l ∈ (List.replicate n ((⟨none, 0⟩, []) : Cell1)).map Prod.fst, l.base = none := fun l hl => by
      rw [List.map_replicate] at hl
      rw [(List.mem_replicate.1 hl).2]
    refine ⟨fun x => ⟨fun hx => hx.elim, fun ⟨l, hl, off, e⟩ => by rw [hn l hl] at e; cases e⟩, ?_, fun p hp => .inl (hn p.1 (List.mem_map.2 ⟨p, hp, rfl⟩))⟩
    rw [List.pairwise_iff_getElem]
    intro i j hi hj _ b off off' h1
    rw [hn _ (List.getElem_mem hi)] at h1
    cases h1
  · rintro e a' w' ⟨ρ', env', H', S', nx', h1, h2, h3, h4, h5⟩
    exact ⟨ρ', env', H', S', nx', fun i hi => (h1 i (by omega)).trans (upd_lt hi), by omega, h3, h4, h5⟩
/-- what a group's members are at the end: new -/
theorem grp_new {B : Base} {ρ : Nat → Loc} {nx : Nat} {H : Heap} {S : Asn} {w : World} {g : Nat} {T : TypeId} {L : List Cell1} (h : Abs B ρ nx H S w) (hS : ∀ R w', S.holds R w' → (baseA B.w0).holds R w') (hg : (g, Ent.ext (grpO T L)) ∈ H) {p : Cell1} (hp : p ∈ L) {b off : Nat} (hb : p.1.base = some ⟨b, off, none⟩) :
    B.w0.heap.size ≤ b ∧ b < w.heap.size ∧ ∀ (j : Nat) (v : Value), p.2[j]? = some v → w.cell? ⟨b, off + j, none⟩ = some v := by
  obtain ⟨R, φ, hw⟩ := h
  have hent : grpHolds T L (φ g) w := hw.ent _ hg
  obtain ⟨hF, c, hc, h1, h2, h3⟩ := grp_in hent hp hb
  refine ⟨Nat.le_of_not_lt fun hlt => hw.apart _ hg b hF (hS R w hw.asn b hlt).1, (Array.getElem?_eq_some_iff.1 hc).1, fun j v hj => ?_⟩
  simp [World.cell?, hc, h3 j v hj]
end Go.SX

