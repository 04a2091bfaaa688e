import Derived.Test.YtgndjjdeopfdkaaGreatKLowerFewer2
/- SxZk -/
namespace Go.SX
open Go.RowKit
theorem AbsR.succ {B : Base} {R : Nat → Prop} {φ : Nat → Nat → Prop} {ρ : Nat → Loc} {nx : Nat} {H : Heap} {S : Asn} {w : World} (h : AbsR B R φ ρ nx H S w) : AbsR B R φ ρ (nx + 1) H S w :=
  ⟨h.os, h.tape, h.output, h.size, fun p hp => ⟨Nat.lt_succ_of_lt (h.pin p hp).1, (h.pin p hp).2⟩, h.ro, h.asn, fun p hp => ⟨Nat.lt_succ_of_lt (h.key p hp).1, fun i hi => Nat.lt_succ_of_lt ((h.key p hp).2 i hi)⟩, h.ent, h.apart, h.sep⟩
theorem fst_other {L : List Cell1} {F : Nat → Prop} {T : TypeId} {w : World} (h : grpHolds T L F w) {d i : Nat} {l m : Loc} {vs : List Value} (hd : L[d]? = some (l, vs)) (hi : (L.map Prod.fst)[i]? = some m) (hne : i ≠ d) {b off off' : Nat} (hb : l.base = some ⟨b, off, none⟩) : m.base ≠ some ⟨b, off', none⟩ := by
  have hL1 : (L.map Prod.fst)[d]? = some l := by rw [List.getElem?_map, hd]; rfl
  have hpw := h.2.1
  rw [List.pairwise_iff_getElem] at hpw
  obtain ⟨g1, e1⟩ := List.getElem?_eq_some_iff.1 hL1
  obtain ⟨g2, e2⟩ := List.getElem?_eq_some_iff.1 hi
  rcases Nat.lt_or_ge d i with hlt | hge
  · have := hpw d i g1 g2 hlt b off off' (by rw [e1]; exact hb)
    rw [e2] at this; exact this
  · intro g
    have := hpw i d g2 g1 (by omega) b off' off (by rw [e2]; exact g)
    rw [e1] at this; exact this hb
/-- a member is let go -/
theorem grp_drop {T : TypeId} {L : List Cell1} {F : Nat → Prop} {w : World} (h : grpHolds T L F w) {d : Nat} {l : Loc} {vs : List Value} (hd : L[d]? = some (l, vs)) {b off : Nat} (hb : l.base = some ⟨b, off, none⟩) :
    grpHolds T (L.set d (⟨none, 0⟩, [])) (fun x => F x ∧ x ≠ b) w := by
  have hdl : d < L.length := (List.getElem?_eq_some_iff.1 hd).1
  have hmap : (L.set d ((⟨none, 0⟩, []) : Cell1)).map Prod.fst = (L.map Prod.fst).set d ⟨none, 0⟩ := by rw [List.map_set]
  have hmem : ∀ m : Loc, m ∈ (L.map Prod.fst).set d ⟨none, 0⟩ → m = ⟨none, 0⟩ ∨ ∃ i, i ≠ d ∧ (L.map Prod.fst)[i]? = some m := fun m hm => by
    obtain ⟨i, hi⟩ := List.mem_iff_getElem?.1 hm
    rw [List.getElem?_set] at hi
    split at hi
    · split at hi
      · exact .inl (by simpa using hi.symm)
      · cases hi
    · rename_i hne
      exact .inr ⟨i, fun e => hne e.symm, hi⟩
  refine ⟨fun x => ?_, ?_, fun p hp => ?_⟩
  · rw [hmap]
    constructor
    · rintro ⟨hx, hxb⟩
      obtain ⟨m, hm, o, ho⟩ := (h.1 x).1 hx
      obtain ⟨i, hi⟩ := List.mem_iff_getElem?.1 hm
      have hid : i ≠ d := fun e => by
        subst e
        have hL1 : (L.map Prod.fst)[i]? = some l := by rw [List.getElem?_map, hd]; rfl
        rw [hL1] at hi
        have : l = m := by simpa using hi
        subst this
        rw [hb] at ho
        simp only [Option.some.injEq, Addr.mk.injEq, and_true] at ho
        exact hxb ho.1.symm
      exact ⟨m, List.mem_iff_getElem?.2 ⟨i, by rw [List.getElem?_set_ne (fun e => hid e.symm)]; exact hi⟩, o, ho⟩
    · rintro ⟨m, hm, o, ho⟩
      rcases hmem m hm with rfl | ⟨i, hid, hi⟩
      · cases ho
      · exact ⟨(h.1 x).2 ⟨m, List.mem_of_getElem? hi, o, ho⟩, fun e => fst_other h hd hi hid hb (e ▸ ho)⟩
  · rw [hmap, List.pairwise_iff_getElem]
    have hpw := h.2.1
    rw [List.pairwise_iff_getElem] at hpw
    intro i j hi hj hij x o o' h1 h2
    rw [List.length_set] at hi hj
    rw [List.getElem_set] at h1 h2
    by_cases e1 : d = i
    · rw [if_pos e1] at h1; cases h1
    · rw [if_neg e1] at h1
      by_cases e2 : d = j
      · rw [if_pos e2] at h2; cases h2
      · rw [if_neg e2] at h2
        exact hpw i j hi hj hij x o o' h1 h2
  · obtain ⟨i, hi⟩ := List.mem_iff_getElem?.1 hp
    rw [List.getElem?_set] at hi
    split at hi
    · have hpe : p = (⟨none, 0⟩, []) := by first | (simpa using hi.symm) | (split at hi; · simpa using hi.symm; · cases hi)
      subst hpe; exact .inl rfl
    · exact h.2.2 p (List.mem_of_getElem? hi)
/-- one more, in place -/
theorem grp_push {T : TypeId} {L : List Cell1} {F : Nat → Prop} {w : World} (h : grpHolds T L F w) {d : Nat} {l : Loc} {vs : List Value} (hd : L[d]? = some (l, vs)) {b off : Nat} (hb : l.base = some ⟨b, off, none⟩) {v : Value} {c : Array Value} (hc : w.heap[b]? = some (.cells c T (0, 0))) (hfit : off + vs.length + 1 ≤ c.size) :
    grpHolds T (L.set d (l, vs ++ [v])) F (w.setRow b (setFrom c.toList (off + vs.length) [v]).toArray) := by
  have hm := List.mem_of_getElem? hd
  obtain ⟨hF, c', hc', hsz, hcap, hcell⟩ := grp_in h hm hb
  rw [hc] at hc'
  obtain rfl : c = c' := by simpa using hc'
  refine ⟨by rw [set_fst hd]; exact h.1, by rw [set_fst hd]; exact h.2.1, fun p hp => ?_⟩
  obtain ⟨i, hi⟩ := List.mem_iff_getElem?.1 hp
  rw [List.getElem?_set] at hi
  have hrow := setRow_heap w b c (setFrom c.toList (off + vs.length) [v]).toArray T (0, 0) hc
  split at hi
  · split at hi
    · have hpe : p = (l, vs ++ [v]) := by simpa using hi.symm
      subst hpe
      refine .inr ⟨b, off, _, hb, hrow, ?_, ?_, fun j u hj => ?_⟩
      · simp [setFrom_length]; omega
      · simpa [setFrom_length] using hcap
      · simp only at hj
        have e : setFrom c.toList (off + vs.length) [v] = c.toList.set (off + vs.length) v := by simp [setFrom]
        rw [e]
        simp only [List.getElem?_toArray]
        rcases Nat.lt_or_ge j vs.length with g | g
        · rw [List.getElem?_append_left g] at hj
          rw [List.getElem?_set_ne (by omega)]
          have := hcell j u hj
          simpa using this
        · have hjl := (List.getElem?_eq_some_iff.1 hj).1
          simp only [List.length_append, List.length_singleton] at hjl
          obtain rfl : j = vs.length := by omega
          have : v = u := by simpa using hj
          subst this
          rw [List.getElem?_set_self (by simpa using (by omega : off + vs.length < c.size))]
    · cases hi
  · rename_i hne
    have hpm := List.mem_of_getElem? hi
    rcases h.2.2 p hpm with hn | ⟨b', off', c', h1, h2, h3, h4, h5⟩
    · exact .inl hn
    · have hbb : b' ≠ b := fun e => by
        subst e
        exact fst_other h hd (i := i) (m := p.1) (by rw [List.getElem?_map, hi]; rfl) (fun e => hne e.symm) hb h1
      exact .inr ⟨b', off', c', h1, ((step_setRow w b _).block b' (Array.getElem?_eq_some_iff.1 h2).1 hbb).trans h2, h3, h4, h5⟩
theorem set_set_same {α : Type} (L : List α) (d : Nat) (x y : α) : (L.set d x).set d y = L.set d y := List.set_set ..
theorem ap_group {cx : Cx} {sT xT T xe : TypeId} {g d : Nat} {L : List Cell1} {l : Loc} {vs : List Value} {v : Value} {b off : Nat} {H : Heap} {S : Asn} {nx : Nat} {K : SV → Heap → Prop} {i : TypeInfo} {z : Value} (hs : cx.P.underlying sT = some (.slice T)) (hx : cx.P.underlying xT = some (.slice xe)) (hi : cx.P.info? T = some i) (hz : i.zero = some z) (hsz : i.size = 1) (hby : i.bytes = 8) (hzs : z.cells.size = 1)
    (hg : (g, Ent.ext (grpO T L)) ∈ H) (hd : L[d]? = some (l, vs)) (hb : l.base = some ⟨b, off, none⟩) (hcapl : vs.length ≤ l.cap) (hroom : (vs.length + 1) * 8 ≤ 140737488355328) (h1v : ∀ u ∈ vs, u.oneCell' = true) {ys : List (List Value)} (hye : ys = [[v]]) (n : Nat) (hn : n = vs.length) (cap : Nat) (hcape : cap = l.cap)
    (h : ∀ l' : Loc, vs.length + 1 ≤ l'.cap → (∃ b off, l'.base = some ⟨b, off, none⟩) → K (.c (.slice l'.base (vs.length + 1) l'.cap)) (setH g (.ext (grpO T (L.set d (l', vs ++ [v])))) H)) : apQ cx sT xT 1 (.slice (some ⟨b, off, none⟩) n cap) ys H S nx K := by
  subst hye hn hcape
  refine ⟨fun ρ w xb xc ty hw hys hfx => ?_⟩
  have hA := hw
  obtain ⟨R, φ, hw⟩ := hw
  have hgrp : grpHolds T L (φ g) w := hw.ent _ hg
  have hm := List.mem_of_getElem? hd
  obtain ⟨hF, c, hc, hsize, hcap, hcell⟩ := grp_in hgrp hm hb
  simp only at hsize hcap hcell
  have hv1 : v.oneCell' = true := (hys [v] List.mem_cons_self).2 v List.mem_cons_self
  have hxi : ∀ k, (TypeDesc.slice xe) ≠ .int k := fun k e => by cases e
  by_cases hneed : vs.length + 1 ≤ l.cap
  · have hrun := run_append_in (P := cx.P) (ty := ty) (sT := sT) (xT := xT) (e := T) (i := i) (w := w) (b := b) (off := off) (sLen := vs.length) (sCap := l.cap) (n := 1) (xc := xc) (xb := xb) (T := T) (c := c) (news := [v]) hs hx hxi hi hneed (by rw [hsz]; exact hfx w hA) hc (by rw [hsz]; simp; omega) (fun u hu => by rw [List.mem_singleton.1 hu]; exact hv1)
    rw [hsz, Nat.mul_one] at hrun
    refine ⟨.c (.slice l.base (vs.length + 1) l.cap), ρ, _, w.setRow b (setFrom c.toList (off + vs.length) [v]).toArray, by rw [hb]; exact hrun, fun _ _ => rfl, SV.lt_c _, ?_, h l hneed ⟨b, off, hb⟩⟩
    refine ⟨R, φ, (hw.store hg (e' := .ext (grpO T (L.set d (l, vs ++ [v])))) (fun y hy => by simp [Ent.hass] at hy) fun F hF' => ?_).succ⟩
    have hF'' : grpHolds T L F w := hF'
    obtain ⟨hFb, _⟩ := grp_in hF'' hm hb
    exact ⟨⟨rfl, rfl, rfl, by simp [World.setRow], fun x hx hne => (step_setRow w b _).block x hx (fun e => hne (by rw [e]; exact hFb))⟩, grp_push hF'' hd hb hc (by omega)⟩
  · have hfo : (Builtin.firstCells i.size vs.length (.slice (some ⟨b, off, none⟩) vs.length l.cap)).run cx.P w.drew = .ok vs.toArray w.drew := by
      refine run_firstCells_some (P := cx.P) w.drew i.size _ _ _ _ _ (by rw [hsz]; simp) fun p u hp => ?_
      have := hcell p u hp
      have hcd : w.drew.heap[b]? = some (.cells c T (0, 0)) := hc
      have e : (⟨b, off, none⟩ : Addr).add p = ⟨b, off + p, none⟩ := by
        unfold Addr.add; split <;> simp_all
      rw [add_none]
      simp [World.cell?, hcd, this]
    have hrun := run_append_out (P := cx.P) (ty := ty) (sT := sT) (xT := xT) (e := T) (i := i) (z := z) (w := w) (sb := some ⟨b, off, none⟩) (xb := xb) (sLen := vs.length) (sCap := l.cap) (n := 1) (xc := xc) (olds := vs) (news := [v]) hs hx hxi hi hz (by rw [hby]; decide) (by omega) hfo (by rw [hsz]; exact hfx _ hA.drew) (by rw [hby]; exact hroom)
    obtain ⟨cp, hcp⟩ : ∃ cp, grownCap w (vs.length + 1) l.cap T = cp := ⟨_, rfl⟩
    have hcple : vs.length + 1 ≤ cp := by rw [← hcp]; exact grownCap_le _ _ _ _
    rw [hcp] at hrun
    obtain ⟨w2, hw2⟩ : ∃ w2, w.drew.alloc (.cells (vs ++ [v] ++ (Builtin.zeroCells z.cells (cp - (vs.length + 1))).toList).toArray T) = w2 := ⟨_, rfl⟩
    have hsize2 : w2.heap.size = w.heap.size + 1 := by rw [← hw2]; exact Array.size_push ..
    have hnew : w2.heap[w.heap.size]? = some (.cells (vs ++ [v] ++ (Builtin.zeroCells z.cells (cp - (vs.length + 1))).toList).toArray T (0, 0)) := by rw [← hw2]; exact alloc_new w.drew _
    have hstep : Step (fun _ => False) w w2 := by
      rw [← hw2]
      exact Step.of_ext ((show Ext w w.drew from ⟨rfl, rfl, rfl, Nat.le_refl _, fun _ _ => rfl⟩).trans (ext_alloc w.drew _))
    rw [hw2] at hrun
    refine ⟨.c (.slice (some ⟨w.heap.size, 0, none⟩) (vs.length + 1) cp), ρ, _, w2, hrun, fun _ _ => rfl, SV.lt_c _, ?_, h ⟨some ⟨w.heap.size, 0, none⟩, cp⟩ hcple ⟨_, _, rfl⟩⟩
    have hgrp2 : grpHolds T L (φ g) w2 := (grpO T L).stable (l := ρ g) (fun x hx => hstep.block x ((grpO T L).lt (l := ρ g) hgrp hx) (fun h => h)) hgrp
    have hdrop := grp_drop hgrp2 hd hb
    have hadd := grp_add (T := T) (F := fun x => φ g x ∧ x ≠ b) (G := fun x => x = w.heap.size) hdrop (d := d) (l := ⟨some ⟨w.heap.size, 0, none⟩, cp⟩) (us := []) (vs := vs ++ [v]) (l0 := ⟨none, 0⟩) (List.getElem?_set_self (List.getElem?_eq_some_iff.1 hd).1) rfl ⟨?_, ?_, .inr ⟨w.heap.size, 0, _, rfl, fun _ => Iff.rfl, hnew, ?_, fun j r hj k u hu => ?_⟩⟩ (by simp) (fun x hx e => by
      have := (grpO T L).lt (l := ρ g) hgrp hx.1
      omega)
    · obtain ⟨hadd, _⟩ := hadd
      rw [set_set_same] at hadd
      refine ⟨R, _, (hw.move hg (e' := .ext (grpO T (L.set d (⟨some ⟨w.heap.size, 0, none⟩, cp⟩, vs ++ [v])))) (fun y hy => by simp [Ent.hass] at hy) (F' := fun x => (φ g x ∧ x ≠ b) ∨ x = w.heap.size) ⟨hstep.os, hstep.tape, hstep.output, hstep.size, fun x hx _ => hstep.block x hx (fun h => h)⟩ (fun y hy => hy.elim (fun g => .inl g.1) (fun g => .inr (by omega))) hadd).succ⟩
    · intro r hr
      obtain ⟨u, hu, rfl⟩ := List.mem_map.1 hr
      refine ⟨rfl, fun x hx => ?_⟩
      rw [List.mem_singleton.1 hx]
      rcases List.mem_append.1 hu with hu | hu
      · exact h1v u hu
      · rw [List.mem_singleton.1 hu]; exact hv1
    · simp [oneRows]; exact hcple
    · simp [Builtin.zeroCells, hzs]; omega
    · obtain ⟨x, hx, rfl⟩ : ∃ x, (vs ++ [v])[j]? = some x ∧ r = [x] := by
        rw [oneRows, List.getElem?_map] at hj
        cases hq : (vs ++ [v])[j]? with
        | none => rw [hq] at hj; cases hj
        | some x => rw [hq] at hj; exact ⟨x, rfl, by simpa using hj.symm⟩
      have hk0 : k = 0 := by
        rcases Nat.eq_zero_or_pos k with h | h
        · exact h
        · rw [List.getElem?_eq_none (by show 1 ≤ k; exact h)] at hu; cases hu
      subst hk0
      obtain rfl : x = u := by simpa using hu
      have hjl := (List.getElem?_eq_some_iff.1 hx).1
      simp only [List.getElem?_toArray, Nat.zero_add, Nat.mul_one, Nat.add_zero]
      rw [List.getElem?_append_left hjl]; exact hx
end Go.SX

/- SxZn -/
namespace Go.SX
open Go.RowKit
/-- what is behind the first k of a row of statements -/
def tailC : Nat → Code → Code
  | 0, c => c
  | n + 1, .seq _ b => tailC n b
  | _ + 1, c => c
def bodyC (f : Func) : Code := match f.body with
  | some c => c
  | none => .skip
/-- The state at hand brought into another form (as at a loop's start): what follows is walked from there. -/
theorem Wp.into {cx : Cx} {c : Code} {env : Env} {H : Heap} {S : Asn} {nx : Nat} {K : Exit → Env → Heap → Asn → Nat → Prop} (n1 : Nat) {vals : Env} {hp : Heap} {as : Asn} (θ : Map) (h : Wp cx c vals hp as n1 K)
    (hn : nx ≤ n1) (hwf : envWf n1 vals = true ∧ heapWf n1 hp = true) (hi : Into nx env H S θ vals hp as) : Wp cx c env H S nx K := by
  simp only [Wp_def] at *
  intro ρ a w hs hw
  have hpin : ∀ p ∈ cx.B.pin, p.1 < nx := by
    obtain ⟨R, φ, hw⟩ := hw
    exact fun p hp => (hw.pin p hp).1
  obtain ⟨h1, h2, h3⟩ := hi.sound hwf.1 hwf.2 hn hpin hs hw
  refine wp_mono (h _ a w h1 h2) ?_
  rintro e a' w' ⟨ρ', env', H', S', nx', g1, g2, g3, g4, g5⟩
  exact ⟨ρ', env', H', S', nx', fun i hi => (g1 i (Nat.lt_of_lt_of_le hi hn)).trans (h3 i hi), Nat.le_trans hn g2, g3, g4, g5⟩
end Go.SX

