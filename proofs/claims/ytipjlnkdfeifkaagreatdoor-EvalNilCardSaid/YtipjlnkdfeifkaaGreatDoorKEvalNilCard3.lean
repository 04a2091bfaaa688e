import Derived.Laws.Externs
import Derived.Test.YtipjlnkdfeifkaaGreatDoorKEvalNilCard2
/- SxCeF -/
set_option linter.unusedVariables false
set_option linter.unusedSimpArgs false
namespace Go.CE
open Go.RowKit Go.SX

/-- the same block by another name -/
theorem Ab.rename {w0 w : World} {ρ : Rho} {nx i : Nat} {H H' : Nat → Option E} {e : E} (h : Ab w0 ρ nx H w) (he : H i = some e) (hH : ∀ j e', H' j = some e' → (j = nx ∧ e' = e) ∨ (j ≠ nx ∧ j ≠ i ∧ H j = some e')) :
    Ab w0 (upd ρ nx (ρ i)) (nx + 1) H' w := by
  have hr : ∀ j, j < nx → upd ρ nx (ρ i) j = ρ j := fun j hj => upd_lt hj
  have h1 := h.lift hr (Nat.le_succ nx)
  have hi := (h.key i e he).1
  refine ⟨h.ext, fun j e' hj => ?_, fun j e' hj => ?_, fun j e' hj => ?_, fun j m e' e'' g1 g2 g3 => ?_⟩
  · rcases hH j e' hj with ⟨rfl, rfl⟩ | ⟨_, _, hj⟩
    · exact ⟨Nat.lt_succ_self _, (h1.key i _ he).2⟩
    · exact h1.key j e' hj
  · rcases hH j e' hj with ⟨rfl, rfl⟩ | ⟨_, _, hj⟩
    · rw [upd_same]; exact h.new i _ he
    · exact h1.new j e' hj
  · rcases hH j e' hj with ⟨rfl, rfl⟩ | ⟨_, _, hj⟩
    · rw [upd_same]
      have := h1.ent i _ he
      rw [hr i hi] at this; exact this
    · exact h1.ent j e' hj
  · rcases hH j e' g1 with ⟨rfl, rfl⟩ | ⟨hj, hji, g1⟩
    · rcases hH m e'' g2 with ⟨rfl, rfl⟩ | ⟨hm, hmi, g2⟩
      · rfl
      · exfalso
        rw [upd_same, hr m (h.key m _ g2).1] at g3
        exact hmi (h.inj _ _ _ _ he g2 g3).symm
    · rcases hH m e'' g2 with ⟨rfl, rfl⟩ | ⟨hm, hmi, g2⟩
      · exfalso
        rw [upd_same, hr j (h.key j _ g1).1] at g3
        exact hji (h.inj _ _ _ _ g1 he g3)
      · exact h1.inj _ _ _ _ g1 g2 g3

section
variable {P : Program} {pr : Pr} (hok : ∀ t ti, pr.tab.get t = some ti → mkTI P t = some ti)

/-- what is handed behind -/
noncomputable def srcF (H : Nat → Option E) (size : Nat) (x : V) : Option (List V × Nat) :=
  match x with
  | .s j k off n => ob (H j) fun e => gd (Nat.beq k size) (ob (seg e.cells (off * k) (n * k)) fun ys => gd (oneBs ys) (some (ys, n)))
  | .c (.slice none 0 0) => some ([], 0)
  | _ => none
theorem srcF_spec {w0 w : World} {ρ : Rho} {nx : Nat} {H : Nat → Option E} {size : Nat} {x : V} {ys : List V} {n : Nat} (h : srcF H size x = some (ys, n)) (hw : Ab w0 ρ nx H w) :
    ys.length = n * size ∧ V.lts nx ys ∧ (∀ v ∈ V.rfs ρ ys, v.oneCell' = true) ∧ ∃ xb xc, x.rf ρ = .slice xb n xc ∧ ∀ u : World, u.heap = w.heap → (Builtin.firstCells size n (.slice xb n xc)).run P u = .ok (V.rfs ρ ys).toArray u := by
  match x, h with
  | .s j k off m, h =>
    replace h := ob_some h; obtain ⟨e, he, h⟩ := h
    replace h := gd_some h; obtain ⟨hk, h⟩ := h
    replace h := ob_some h; obtain ⟨zs, hz, h⟩ := h
    replace h := gd_some h; obtain ⟨ho, h⟩ := h
    cases h
    have hk := Nat.eq_of_beq_eq_true hk
    subst hk
    obtain ⟨hl, _, hget⟩ := seg_spec hz
    obtain ⟨c, hc, _, hcells⟩ := hw.ent j e he
    refine ⟨hl, lts_seg (hw.key j e he).2 hz, fun v hv => ?_, _, _, rfl, fun u hu => ?_⟩
    · simp only [V.rfs_eq, List.mem_map] at hv
      obtain ⟨v, hv, rfl⟩ := hv
      exact oneB_spec (oneBs_spec ho v hv) ρ
    · refine run_firstCells_some (P := P) u k _ _ _ _ _ (by rw [rfs_length, hl]) fun p v hp => ?_
      rw [add_none]
      obtain ⟨y, hy, rfl⟩ := rfs_get_inv hp
      simp [World.cell?, hu, hc, hcells _ _ (hget p y hy)]
  | .c (.slice none 0 0), h =>
    cases h
    exact ⟨by simp, trivial, by simp [V.rfs], none, 0, rfl, fun u _ => run_firstCells_none _ _ _ _ _⟩

noncomputable def appB (H : Mem) (nx : Nat) (te : TI) (el : TypeId) (s : V) (ys : List V) (n : Nat) : Option (V × Mem × Nat) :=
  match s with
  | .c (.slice none 0 0) => (match n with
    | 0 => some (.c (.slice none 0 0), H, nx)
    | m + 1 => gd (Nat.ble (Nat.succ m * te.bytes) 140737488355328) (newB H nx ⟨ys, te.size, el⟩ (.s nx te.size 0 (Nat.succ m))))
  | .z i k off => (match n with
    | 0 => none
    | m + 1 => gd (Nat.ble (Nat.succ m * te.bytes) 140737488355328) (newB H nx ⟨ys, te.size, el⟩ (.s nx te.size 0 (Nat.succ m))))
  | .s i k off len => ob (H.get i) fun e => gd (Nat.beq k te.size && Nat.beq k e.k && Nat.beq e.T el && okN i && Nat.ble ((off + len) * k) e.cells.length) (forceN (len + n) fun n =>
      match Nat.ble ((off + n) * k) e.cells.length with
      | true => ob (setsN e.cells ((off + len) * k) ys) fun l => some (.s i k off n, T.set (some ⟨l, e.k, e.T⟩) D H i, nx)
      | false => gd (Nat.beq off 0 && Nat.ble (n * te.bytes) 140737488355328) (ob (takeF (len * k) e.cells) fun l => newB (T.set none D H i) nx ⟨l ++ ys, e.k, e.T⟩ (.s nx k 0 n)))
  | _ => none

noncomputable def appendF (pr : Pr) (H : Mem) (nx : Nat) (ts : List TypeId) (args : List V) : Option (V × Mem × Nat) :=
  match ts, args with
  | sT :: xT :: _, s :: x :: _ =>
    ob (pr.tab.get sT) fun ti => ob (pr.tab.get xT) fun tx => ob (pr.tab.get ti.elem) fun te =>
    gd (Nat.beq ti.kind 1 && Nat.beq tx.kind 1 && !Nat.beq te.bytes 0 && !Nat.beq te.size 0 && lenB (cl te.zero) te.size) (ob (srcF H.get te.size x) fun y =>
      appB H nx te ti.elem s y.1 y.2)
  | _, _ => none

set_option maxHeartbeats 4000000 in
theorem append_core {w0 w : World} {ρ : Rho} {nx nx' n xc : Nat} {H H' : Mem} {sT xT ty el : TypeId} {dx : TypeDesc} {ie : TypeInfo} {ze : Value} {te : TI} {s v : V} {ys : List V} {xb : Option Addr}
    (h : appB H nx te el s ys n = some (v, H', nx')) (hw : Ab w0 ρ nx H.get w) (ets : te.size = ie.size) (etb : te.bytes = ie.bytes)
    (hd : P.underlying sT = some (.slice el)) (hdx : P.underlying xT = some dx) (hxi : ∀ k, dx ≠ .int k) (hie : P.info? el = some ie) (hze : ie.zero = some ze) (hby : ie.bytes ≠ 0) (hk0 : 0 < ie.size) (hzs : ze.cells.size = ie.size)
    (hyl : ys.length = n * ie.size) (hylt : V.lts nx ys) (hyo : ∀ v ∈ V.rfs ρ ys, v.oneCell' = true) (hfx : ∀ u : World, u.heap = w.heap → (Builtin.firstCells ie.size n (.slice xb n xc)).run P u = .ok (V.rfs ρ ys).toArray u) :
    ∃ r w', (Builtin.append_ #[sT, xT] ty #[s.rf ρ, .slice xb n xc]).run P w = .ok r w' ∧ Does w0 ρ nx v H' nx' w' r := by
  unfold appB at h
  rw [ets, etb] at h
  -- a new row: its cells, its room
  have grown : ∀ (sLen sCap : Nat) (l : List V) (t : TypeId), l.length = sLen * ie.size → 
      (∀ (p : Nat) (v : V), (l ++ ys)[p]? = some v → (V.rfs ρ l ++ V.rfs ρ ys ++ (Builtin.zeroCells ze.cells (grownCap w (sLen + n) sCap t - (sLen + n))).toList).toArray[p]? = some (v.rf ρ)) ∧
      (l ++ ys).length ≤ grownCap w (sLen + n) sCap t * ie.size ∧ grownCap w (sLen + n) sCap t * ie.size ≤ (V.rfs ρ l ++ V.rfs ρ ys ++ (Builtin.zeroCells ze.cells (grownCap w (sLen + n) sCap t - (sLen + n))).toList).toArray.size := by
    intro sLen sCap l t hl
    have hcap := Go.SX.grownCap_le w (sLen + n) sCap t
    have hll : (l ++ ys).length = (sLen + n) * ie.size := by rw [List.length_append, hl, hyl, Nat.add_mul]
    refine ⟨fun p v hp => ?_, by rw [hll]; exact Nat.mul_le_mul_right _ hcap, ?_⟩
    · rw [List.getElem?_toArray, ← rfs_append, List.getElem?_append_left (by rw [rfs_length]; exact (List.getElem?_eq_some_iff.1 hp).1)]
      exact rfs_get hp
    · simp only [List.size_toArray, List.length_append, rfs_length, zeroCells_length, hzs, hl, hyl]
      rw [← Nat.add_mul, ← Nat.add_mul]
      exact Nat.mul_le_mul_right _ (by omega)
  match s, h with
  | .c (.slice none 0 0), h =>
    match n, h, hyl, hfx, grown with
    | 0, h, hyl, hfx, grown =>
      cases h
      have hy0 : ys = [] := List.eq_nil_of_length_eq_zero (by simpa using hyl)
      have hf := hfx w rfl
      exact ⟨_, w, run_append_nil0 hd hdx hxi hie (Nat.le_refl _) hf, ρ, rfl, fun _ _ => rfl, Nat.le_refl _, trivial, hw⟩
    | m + 1, h, hyl, hfx, grown =>
      replace h := gd_some h; obtain ⟨hr, h⟩ := h
      have hr := Nat.le_of_ble_eq_true hr
      obtain ⟨g1, g2, g3⟩ := grown 0 0 [] el (by simp)
      have hrun := run_append_out (ty := ty) hd hdx hxi hie hze hby (w := w) (sb := none) (sLen := 0) (sCap := 0) (n := m + 1) (xb := xb) (xc := xc) (olds := []) (news := V.rfs ρ ys) (by omega) (run_firstCells_none _ _ _ _ _) (hfx w.drew rfl) (by rw [Nat.zero_add]; exact hr)
      refine ⟨_, _, hrun, newB_does (cap := grownCap w (0 + (m + 1)) 0 el) h hw.drew hylt (fun p v hp => ?_) ⟨?_, ?_⟩ (Nat.lt_succ_self _) ?_⟩
      · exact g1 p v hp
      · exact g2
      · exact g3
      · simp only [V.rf, upd_same, Nat.zero_add, Nat.zero_mul, Nat.sub_zero]; rfl
  | .z i k off, h =>
    match n, h, hyl, hfx, grown with
    | m + 1, h, hyl, hfx, grown =>
      replace h := gd_some h; obtain ⟨hr, h⟩ := h
      have hr := Nat.le_of_ble_eq_true hr
      obtain ⟨g1, g2, g3⟩ := grown 0 0 [] el (by simp)
      have hf0 : (Builtin.firstCells ie.size 0 (.slice (some ⟨(ρ i).1, off * k, none⟩) 0 0)).run P w.drew = .ok ([] : List Value).toArray w.drew :=
        run_firstCells_some (P := P) w.drew ie.size _ _ _ _ [] (by simp) (fun p v hp => by simp at hp)
      have hrun := run_append_out (ty := ty) hd hdx hxi hie hze hby (w := w) (sb := some ⟨(ρ i).1, off * k, none⟩) (sLen := 0) (sCap := 0) (n := m + 1) (xb := xb) (xc := xc) (olds := []) (news := V.rfs ρ ys) (by omega) hf0 (hfx w.drew rfl) (by rw [Nat.zero_add]; exact hr)
      refine ⟨_, _, hrun, newB_does (cap := grownCap w (0 + (m + 1)) 0 el) h hw.drew hylt (fun p v hp => ?_) ⟨?_, ?_⟩ (Nat.lt_succ_self _) ?_⟩
      · exact g1 p v hp
      · exact g2
      · exact g3
      · simp only [V.rf, upd_same, Nat.zero_add, Nat.zero_mul, Nat.sub_zero]; rfl
  | .s i k off len, h =>
    replace h := ob_some h; obtain ⟨e, he, h⟩ := h
    replace h := gd_some h; obtain ⟨hg, h⟩ := h
    rw [forceN_eq] at h
    simp only [Bool.and_eq_true] at hg
    obtain ⟨⟨⟨⟨ha, hb⟩, hc⟩, hi⟩, hle⟩ := hg
    have ha : k = ie.size := Nat.eq_of_beq_eq_true ha
    have hb : k = e.k := Nat.eq_of_beq_eq_true hb
    have hc : e.T = el := Nat.eq_of_beq_eq_true hc
    have hle := Nat.le_of_ble_eq_true hle
    subst ha
    obtain ⟨c, hblk, hcap, hcells⟩ := hw.ent i e he
    rw [← hb] at hcap
    have room : ∀ {m : Nat}, (off + m) * ie.size ≤ e.cells.length → off + m ≤ (ρ i).2 := fun hm => Nat.le_of_mul_le_mul_right (Nat.le_trans hm hcap.1) hk0
    have hlt := (hw.key i e he).2
    cases hfit : Nat.ble ((off + (len + n)) * ie.size) e.cells.length with
    | true =>
      rw [hfit] at h
      have hfit := Nat.le_of_ble_eq_true hfit
      replace h := ob_some h; obtain ⟨l, hl, h⟩ := h
      cases h
      obtain ⟨_, rfl⟩ := setsN_spec hl
      have hcl2 : (off + len) * ie.size + ys.length ≤ e.cells.length := by rw [hyl, ← Nat.add_mul, Nat.add_assoc]; exact hfit
      have hcl3 : off * ie.size + len * ie.size + (V.rfs ρ ys).length ≤ c.size := by rw [rfs_length, ← Nat.add_mul]; omega
      have hrun := run_append_in (ty := ty) hd hdx hxi hie (sCap := (ρ i).2 - off) (by have := room hfit; omega : len + n ≤ (ρ i).2 - off) (hfx w rfl) hblk hcl3 hyo
      refine ⟨_, _, hrun, ρ, rfl, fun _ _ => rfl, Nat.le_refl _, (hw.key i e he).1, ?_⟩
      rw [← Nat.add_mul]
      refine hw.write he hblk (l := setFrom e.cells ((off + len) * ie.size) ys) (lts_setFrom hlt hylt) (by simp [setFrom_length]) (by rw [setFrom_length, ← hb]; exact hcap.1) (fun p v hp => ?_) ?_
      · rw [List.getElem?_toArray]
        rw [setFrom_get _ _ _ _ hcl2] at hp
        rw [setFrom_get _ _ _ _ (by rw [rfs_length]; simp; omega), rfs_length]
        split
        · rename_i hin
          rw [if_pos hin] at hp
          exact rfs_get hp
        · rename_i hin
          rw [if_neg hin] at hp
          rw [Array.getElem?_toList]; exact hcells p v hp
      · intro j e' hj
        rw [get_setN _ _ _ hi] at hj
        by_cases hji : j = i
        · rw [if_pos hji] at hj; exact .inl ⟨hji, (by simpa using hj.symm)⟩
        · rw [if_neg hji] at hj; exact .inr ⟨hji, hj⟩
    | false =>
      rw [hfit] at h
      replace h := gd_some h; obtain ⟨hg, h⟩ := h
      replace h := ob_some h; obtain ⟨l, hl, h⟩ := h
      simp only [Bool.and_eq_true] at hg
      obtain rfl : off = 0 := Nat.eq_of_beq_eq_true hg.1
      have hroom := Nat.le_of_ble_eq_true hg.2
      obtain ⟨hl1, hl2, hl3⟩ := takeF_spec hl
      have hllt : V.lts nx l := V.lts_iff.2 fun v hv => by rw [hl2] at hv; exact V.lts_iff.1 hlt v (List.mem_of_mem_take hv)
      have hlget : ∀ p v, l[p]? = some v → e.cells[p]? = some v ∧ p < len * ie.size := fun p v hp => by
        have hpl : p < len * ie.size := by have := (List.getElem?_eq_some_iff.1 hp).1; omega
        rw [hl2, List.getElem?_take, if_pos hpl] at hp
        exact ⟨hp, hpl⟩
      have hH : ∀ j e', (T.set none D H i).get j = some e' → j ≠ i ∧ H.get j = some e' := fun j e' hj => by
        rw [get_setN _ _ _ hi] at hj
        by_cases hji : j = i
        · rw [if_pos hji] at hj; cases hj
        · rw [if_neg hji] at hj; exact ⟨hji, hj⟩
      have hzero : (0 : Nat) * ie.size = 0 := Nat.zero_mul _
      by_cases hneed : len + n ≤ (ρ i).2
      · -- in its place
        replace h := gd_some h; obtain ⟨hgn, h⟩ := h
        cases h
        have hcl3 : 0 + len * ie.size + (V.rfs ρ ys).length ≤ c.size := by
          rw [rfs_length, hyl, Nat.zero_add, ← Nat.add_mul]
          exact Nat.le_trans (Nat.mul_le_mul_right _ hneed) hcap.2
        have hblk' := hblk
        have hrun := run_append_in (ty := ty) hd hdx hxi hie (off := 0) (sLen := len) (sCap := (ρ i).2) hneed (hfx w rfl) hblk hcl3 hyo
        refine ⟨_, _, by simp only [V.rf, hzero, Nat.sub_zero]; exact hrun, upd ρ nx (ρ i), by simp only [V.rf, upd_same, hzero, Nat.sub_zero], fun j hj => upd_lt hj, Nat.le_succ _, Nat.lt_succ_self _, ?_⟩
        rw [Nat.zero_add] at hcl3 ⊢
        have hwr : Ab w0 ρ nx (fun j => if j = i then some ⟨l ++ ys, e.k, e.T⟩ else H.get j) (w.setRow (ρ i).1 (setFrom c.toList (len * ie.size) (V.rfs ρ ys)).toArray) := by
          refine hw.write he hblk (l := l ++ ys) (V.lts_iff.2 fun v hv => (List.mem_append.1 hv).elim (V.lts_iff.1 hllt v) (V.lts_iff.1 hylt v)) (by simp [setFrom_length]) ?_ (fun p v hp => ?_) ?_
          · rw [List.length_append, hl1, hyl, ← hb, ← Nat.add_mul]; exact Nat.mul_le_mul_right _ hneed
          · rw [List.getElem?_toArray, setFrom_get _ _ _ _ (by simpa using hcl3), rfs_length]
            by_cases hp' : p < len * ie.size
            · rw [if_neg (by omega)]
              rw [List.getElem?_append_left (by omega)] at hp
              rw [Array.getElem?_toList]; exact hcells p v (hlget p v hp).1
            · rw [List.getElem?_append_right (by omega), hl1] at hp
              have := (List.getElem?_eq_some_iff.1 hp).1
              rw [if_pos (by omega)]
              exact rfs_get hp
          · intro j e' hj
            split at hj
            · rename_i hji; exact .inl ⟨hji, by simpa using hj.symm⟩
            · rename_i hji; exact .inr ⟨hji, hj⟩
        refine hwr.rename (i := i) (e := ⟨l ++ ys, e.k, e.T⟩) (by simp) fun j e' hj => ?_
        rcases newB_mem hgn j e' hj with ⟨rfl, rfl⟩ | ⟨hne, hj⟩
        · exact .inl ⟨rfl, rfl⟩
        · obtain ⟨g1, g2⟩ := hH j e' hj
          exact .inr ⟨hne, g1, by rw [if_neg g1]; exact g2⟩
      · obtain ⟨g1, g2, g3⟩ := grown len (ρ i).2 l el hl1
        have hfirst : (Builtin.firstCells ie.size len (.slice (some ⟨(ρ i).1, 0, none⟩) len (ρ i).2)).run P w.drew = .ok (V.rfs ρ l).toArray w.drew := by
          refine run_firstCells_some (P := P) w.drew ie.size _ _ _ _ _ (by rw [rfs_length, hl1]) fun p v hp => ?_
          rw [add_none]
          obtain ⟨y, hy', rfl⟩ := rfs_get_inv hp
          have hbd : w.drew.heap[(ρ i).1]? = some (.cells c e.T (0, 0)) := hblk
          simp [World.cell?, hbd, hcells _ _ (hlget p y hy').1]
        have hrun := run_append_out (ty := ty) hd hdx hxi hie hze hby (Nat.lt_of_not_le hneed) hfirst (hfx w.drew rfl) hroom
        have hw2 : Ab w0 ρ nx (T.set none D H i).get w.drew := hw.drew.sub fun j e' hj => (hH j e' hj).2
        rw [← hb, hc] at h
        refine ⟨_, _, by simp only [V.rf, hzero, Nat.sub_zero]; exact hrun, newB_does (cap := grownCap w (len + n) (ρ i).2 el) h hw2 ?_ g1 ⟨g2, g3⟩ (Nat.lt_succ_self _) ?_⟩
        · exact V.lts_iff.2 fun v hv => (List.mem_append.1 hv).elim (V.lts_iff.1 hllt v) (V.lts_iff.1 hylt v)
        · simp only [V.rf, upd_same, hzero, Nat.sub_zero]; rfl

set_option maxHeartbeats 4000000 in
include hok in
theorem appendF_sound {w0 w : World} {ρ : Rho} {nx nx' : Nat} {H H' : Mem} {ts : Array TypeId} {ty : TypeId} {args : List V} {v : V} (h : appendF pr H nx ts.toList args = some (v, H', nx')) (hargs : V.lts nx args) (hw : Ab w0 ρ nx H.get w) :
    ∃ r w', (Builtin.append_ ts ty (V.rfs ρ args).toArray).run P w = .ok r w' ∧ Does w0 ρ nx v H' nx' w' r := by
  unfold appendF at h
  match hts : ts.toList, args, h, hargs with
  | sT :: xT :: tr, s :: x :: ar, h, hargs =>
  have ht0 : ts[0]? = some sT := by rw [← Array.getElem?_toList, hts]; rfl
  have ht1 : ts[1]? = some xT := by rw [← Array.getElem?_toList, hts]; rfl
  replace h := ob_some h; obtain ⟨ti, h1, h⟩ := h
  replace h := ob_some h; obtain ⟨tx, h2, h⟩ := h
  replace h := ob_some h; obtain ⟨te, h3, h⟩ := h
  replace h := gd_some h; obtain ⟨hg, h⟩ := h
  replace h := ob_some h; obtain ⟨⟨ys, n⟩, hy, h⟩ := h
  simp only [Bool.and_eq_true, Bool.not_eq_true'] at hg
  obtain ⟨⟨⟨⟨hk1, hk2⟩, hb0⟩, hs0⟩, hzl⟩ := hg
  obtain ⟨i1, d, z, hi0, hd, hz0, rfl⟩ := mkTI_spec (hok _ _ h1)
  obtain ⟨ix, dx, zx, hix0, hdx, hzx0, rfl⟩ := mkTI_spec (hok _ _ h2)
  have hk1 := Nat.eq_of_beq_eq_true hk1
  have hk2 := Nat.eq_of_beq_eq_true hk2
  have hde' : ∃ e, d = .slice e := by cases d <;> first | exact ⟨_, rfl⟩ | (simp [kindOf] at hk1)
  obtain ⟨el, rfl⟩ := hde'
  have hxi : ∀ k, dx ≠ .int k := by rintro k rfl; simp [kindOf] at hk2
  obtain ⟨ie, de, ze, hie, hde, hze, rfl⟩ := mkTI_spec (hok _ _ h3)
  simp only [elemOf'] at hie h hy
  have hby : ie.bytes ≠ 0 := Nat.ne_of_beq_eq_false hb0
  have hk0 : 0 < ie.size := Nat.pos_of_ne_zero (Nat.ne_of_beq_eq_false hs0)
  have hcl : ∀ l : List Value, (cl l).length = l.length := fun l => by
    have : (V.rfs ρ (cl l)).length = l.length := by rw [rfs_cl]
    rw [rfs_length] at this; exact this
  have hzs : ze.cells.size = ie.size := by have := lenB_spec hzl; rw [hcl] at this; simpa using this
  obtain ⟨hyl, hylt, hyo, xb, xc, hxr, hfx⟩ := srcF_spec (P := P) hy hw
  have key : ∀ (sv : Value) r w', s.rf ρ = sv → (Builtin.append_ #[sT, xT] ty #[sv, .slice xb n xc]).run P w = .ok r w' →
      (Builtin.append_ ts ty (V.rfs ρ (s :: x :: ar)).toArray).run P w = .ok r w' := by
    intro sv r w' hsv hr
    unfold Builtin.append_ at hr ⊢
    simp only [List.getElem?_toArray, List.getElem?_cons_zero, List.getElem?_cons_succ, V.rfs, ht0, ht1, hsv, hxr] at hr ⊢
    exact hr
  obtain ⟨r, w', g1, g2⟩ := append_core (P := P) (sT := sT) (xT := xT) (ty := ty) h hw rfl rfl hd hdx hxi hie hze hby hk0 hzs hyl hylt hyo hfx
  exact ⟨r, w', key _ _ _ rfl g1, g2⟩
end
end Go.CE

/- SxCeG -/
namespace Go.CE
open Go.RowKit Go.SX

noncomputable def mmF (mx : Bool) (k : IntKind) : Int → List V → Option V
  | x, [] => some (.c (.int k x))
  | x, .c (.int _ y) :: r => (match mx, leI y x, leI x y with | true, true, _ => mmF mx k x r | true, false, _ => mmF mx k y r | false, _, true => mmF mx k x r | false, _, false => mmF mx k y r)
  | _, _ => none
theorem mmF_max {P : Program} {k : IntKind} {ρ : Rho} {nx : Nat} : ∀ {r : List V} {x : Int} {v : V}, mmF true k x r = some v → v.lt nx ∧ ∀ w, ((V.rfs ρ r).foldlM Builtin.max2 (.int k x)).run P w = .ok (v.rf ρ) w
  | [], x, v, h => by cases h; exact ⟨trivial, fun w => by simp [V.rfs, V.rf]⟩
  | .c (.int k' y) :: r, x, v, h => by
    unfold mmF at h
    rw [leI_eq] at h
    by_cases hy : y > x
    · rw [decide_eq_false (by omega)] at h
      replace h : mmF true k y r = some v := h
      obtain ⟨h1, h2⟩ := mmF_max (P := P) (ρ := ρ) (nx := nx) h
      exact ⟨h1, fun w => by simp only [V.rfs, V.rf, List.foldlM_cons, Sem.run_bind, Builtin.max2, Sem.run_pure, Result.andThen_ok, if_pos hy, h2]⟩
    · rw [decide_eq_true (by omega)] at h
      replace h : mmF true k x r = some v := h
      obtain ⟨h1, h2⟩ := mmF_max (P := P) (ρ := ρ) (nx := nx) h
      exact ⟨h1, fun w => by simp only [V.rfs, V.rf, List.foldlM_cons, Sem.run_bind, Builtin.max2, Sem.run_pure, Result.andThen_ok, if_neg hy, h2]⟩
theorem mmF_min {P : Program} {k : IntKind} {ρ : Rho} {nx : Nat} : ∀ {r : List V} {x : Int} {v : V}, mmF false k x r = some v → v.lt nx ∧ ∀ w, ((V.rfs ρ r).foldlM Builtin.min2 (.int k x)).run P w = .ok (v.rf ρ) w
  | [], x, v, h => by cases h; exact ⟨trivial, fun w => by simp [V.rfs, V.rf]⟩
  | .c (.int k' y) :: r, x, v, h => by
    unfold mmF at h
    rw [leI_eq, leI_eq] at h
    by_cases hy : y < x
    · rw [decide_eq_false (show ¬ x ≤ y by omega)] at h
      replace h : mmF false k y r = some v := by cases hd : decide (y ≤ x) <;> rw [hd] at h <;> exact h
      obtain ⟨h1, h2⟩ := mmF_min (P := P) (ρ := ρ) (nx := nx) h
      exact ⟨h1, fun w => by simp only [V.rfs, V.rf, List.foldlM_cons, Sem.run_bind, Builtin.min2, Sem.run_pure, Result.andThen_ok, if_pos hy, h2]⟩
    · rw [decide_eq_true (show x ≤ y by omega)] at h
      replace h : mmF false k x r = some v := by cases hd : decide (y ≤ x) <;> rw [hd] at h <;> exact h
      obtain ⟨h1, h2⟩ := mmF_min (P := P) (ρ := ρ) (nx := nx) h
      exact ⟨h1, fun w => by simp only [V.rfs, V.rf, List.foldlM_cons, Sem.run_bind, Builtin.min2, Sem.run_pure, Result.andThen_ok, if_neg hy, h2]⟩

noncomputable def builtinF (pr : Pr) (b : Builtin) (ts : List TypeId) (args : List V) : Option V :=
  match b, ts, args with
  | .len, t :: _, x :: _ => ob (pr.tab.get t) fun ti => (match x with
    | .s _ _ _ n => gd (Nat.beq ti.kind 1) (some (.c (.int .i64 (.ofNat n))))
    | .z _ _ _ => gd (Nat.beq ti.kind 1) (some (.c (.int .i64 (.ofNat 0))))
    | .c (.slice _ n _) => gd (Nat.beq ti.kind 1) (some (.c (.int .i64 (.ofNat n))))
    | .c (.string s) => gd (Nat.beq ti.kind 4) (some (.c (.int .i64 (.ofNat s.size))))
    | _ => none)
  | .max, _, .c (.int k x) :: r => mmF true k x r
  | .min, _, .c (.int k x) :: r => mmF false k x r
  | _, _, _ => none

noncomputable def extrF (x : V) (i : Nat) : Option V :=
  match x with
  | .tup l => nth l i
  | .c (.tuple a) => nth (cl a.toList) i
  | _ => none

noncomputable def qop (pr : Pr) (H : Nat → Option E) (o : Op) (env : Env) : Option V :=
  match o with
  | .move x => evO env x
  | .assign x => evO env x
  | .pick c a b => ob (evO env c) fun v => match v with | .c (.bool true) => evO env a | .c (.bool false) => evO env b | _ => none
  | .load t x => ob (evO env x) fun p => loadF pr H t p
  | .fieldAddr t x f => ob (evO env x) fun p => fieldAddrF pr t p f
  | .field t x f => ob (evO env x) fun p => fieldF pr t p f
  | .indexAddr t x i => ob (evO env x) fun a => ob (evO env i) fun b => idxF pr t a b
  | .binOp op t x y _ => ob (evO env x) fun a => ob (evO env y) fun b => binF pr op t a b
  | .unOp op _ x => ob (evO env x) fun a => unF op a
  | .convert s d x => ob (evO env x) fun a => convF pr s d a
  | .extract x i => ob (evO env x) fun a => extrF a i
  | .build t ps => ob (evp env ps.toList) fun l => buildF pr t l
  | .makeFunc fn a b => ob (evs env a.toList) fun la => ob (evs env b.toList) fun lb => some (.fn fn la lb)
  | .nilCheck x => ob (evO env x) fun v => (match v with
    | .p i f => some (.p i f)
    | .fn (.func f) a b => some (.fn (.func f) a b)
    | .c (.func (.func f) a b) => some (.c (.func (.func f) a b))
    | _ => none)
  | .slice t x lo hi mx => (match mx with
    | none => ob (evO env x) fun v => ob (optF env lo) fun l => ob (optF env hi) fun h => sliceF pr H t v l h
    | some m => ob (evO env x) fun v => ob (optF env lo) fun l => ob (optF env hi) fun h => ob (optF env (some m)) fun k => slice0F pr t v l h k)
  | .call c => (match c.callee with
    | .builtin b => ob (evs env c.args.toList) fun l => builtinF pr b c.argTypes.toList l
    | _ => none)
  | _ => none

section
variable {P : Program} {pr : Pr} (hok : ∀ t ti, pr.tab.get t = some ti → mkTI P t = some ti)

theorem val_run {s : Sem Value} {v : Value} {w w' : World} (h : s.run P w = .ok v w') : (do pure (Next.value (← s)) : Sem Next).run P w = .ok (.value v) w' := by
  simp only [Sem.run_bind, h, Result.andThen_ok, Sem.run_pure]

include hok in
theorem qop_sound {w0 w : World} {o : Oper} {env : Env} {a : Act} {n : Nat} {ρ : Rho} {nx : Nat} {H : Nat → Option E} {v : V} (hs : Sat n ρ nx env a) (hw : Ab w0 ρ nx H w) (h : qop pr H o.op env = some v) :
    v.lt nx ∧ (execOp a.eval o).run P w = .ok (.value (v.rf ρ)) w := by
  obtain ⟨dst, op, type, pos, after, guard⟩ := o
  cases op with
  | move x =>
    obtain ⟨h1, h2⟩ := evO_spec hs h
    exact ⟨h2, by simp [execOp, h1]⟩
  | assign x =>
    obtain ⟨h1, h2⟩ := evO_spec hs h
    exact ⟨h2, by simp [execOp, h1]⟩
  | pick c x y =>
    replace h := ob_some h; obtain ⟨u, h1, h⟩ := h
    obtain ⟨h2, h3⟩ := evO_spec hs h1
    match u, h, h2 with
    | .c (.bool true), h, h2 =>
      obtain ⟨h4, h5⟩ := evO_spec hs h
      exact ⟨h5, by simp [execOp, h2, h4, V.rf, asBool]⟩
    | .c (.bool false), h, h2 =>
      obtain ⟨h4, h5⟩ := evO_spec hs h
      exact ⟨h5, by simp [execOp, h2, h4, V.rf, asBool]⟩
  | load t x =>
    replace h := ob_some h; obtain ⟨p, h1, h⟩ := h
    obtain ⟨h2, h3⟩ := evO_spec hs h1
    obtain ⟨h4, h5⟩ := loadF_sound hok h hw
    exact ⟨h4, by simp only [execOp, h2]; exact val_run h5⟩
  | fieldAddr t x f =>
    replace h := ob_some h; obtain ⟨p, h1, h⟩ := h
    obtain ⟨h2, h3⟩ := evO_spec hs h1
    obtain ⟨h4, h5⟩ := fieldAddrF_sound hok (ρ := ρ) h h3
    exact ⟨h4, by simp only [execOp, h2]; exact val_run (h5 w)⟩
  | field t x f =>
    replace h := ob_some h; obtain ⟨p, h1, h⟩ := h
    obtain ⟨h2, h3⟩ := evO_spec hs h1
    obtain ⟨h4, h5⟩ := fieldF_sound hok (ρ := ρ) h h3
    exact ⟨h4, by simp only [execOp, h2]; exact val_run (h5 w)⟩
  | indexAddr t x i =>
    replace h := ob_some h; obtain ⟨p, h1, h⟩ := h
    replace h := ob_some h; obtain ⟨q, h1', h⟩ := h
    obtain ⟨h2, h3⟩ := evO_spec hs h1
    obtain ⟨h2', h3'⟩ := evO_spec hs h1'
    obtain ⟨h4, h5⟩ := idxF_sound hok (ρ := ρ) h h3
    exact ⟨h4, by simp only [execOp, h2, h2']; exact val_run (h5 w)⟩
  | binOp op t x y yt =>
    replace h := ob_some h; obtain ⟨p, h1, h⟩ := h
    replace h := ob_some h; obtain ⟨q, h1', h⟩ := h
    obtain ⟨h2, h3⟩ := evO_spec hs h1
    obtain ⟨h2', h3'⟩ := evO_spec hs h1'
    obtain ⟨h4, h5⟩ := binF_sound hok (ρ := ρ) (nx := nx) (ox := x) (oy := y) h
    exact ⟨h4, by simp only [execOp, h2, h2']; exact val_run (h5 w)⟩
  | unOp op t x =>
    replace h := ob_some h; obtain ⟨p, h1, h⟩ := h
    obtain ⟨h2, h3⟩ := evO_spec hs h1
    obtain ⟨h4, h5⟩ := unF_sound (P := P) (ρ := ρ) (nx := nx) h
    exact ⟨h4, by simp only [execOp, h2]; exact val_run (h5 w)⟩
  | convert s d x =>
    replace h := ob_some h; obtain ⟨p, h1, h⟩ := h
    obtain ⟨h2, h3⟩ := evO_spec hs h1
    obtain ⟨h4, h5⟩ := convF_sound hok (ρ := ρ) (nx := nx) h
    exact ⟨h4, by simp only [execOp, h2]; exact val_run (h5 w)⟩
  | extract x i =>
    replace h := ob_some h; obtain ⟨p, h1, h⟩ := h
    obtain ⟨h2, h3⟩ := evO_spec hs h1
    match p, h, h2, h3 with
    | .tup l, h, h2, h3 =>
      replace h : nth l i = some v := h
      rw [nth_eq] at h
      exact ⟨lts_get h3 h, by simp [execOp, h2, V.rf, Instr.extract, V.rfs_eq, h]⟩
    | .c (.tuple b), h, h2, h3 =>
      replace h : nth (cl b.toList) i = some v := h
      rw [nth_eq] at h
      refine ⟨lts_get (lts_cl nx b.toList) h, ?_⟩
      have h6 : b[i]? = some (v.rf ρ) := by
        have := rfs_get (ρ := ρ) h
        rw [rfs_cl] at this
        rw [← Array.getElem?_toList]; exact this
      simp [execOp, h2, V.rf, Instr.extract, h6]
  | build t ps =>
    replace h := ob_some h; obtain ⟨l, h1, h⟩ := h
    obtain ⟨h2, h3⟩ := evp_spec hs h1
    obtain ⟨h4, h5⟩ := buildF_sound hok h3 h
    have e : (ps.map fun (i, x) => (i, a.eval x)) = (l.map fun p => (p.1, p.2.rf ρ)).toArray := by
      rw [← h2]; apply Array.ext'; simp
    exact ⟨h4, by simp only [execOp, e]; exact val_run (h5 ρ w)⟩
  | makeFunc fn x y =>
    replace h := ob_some h; obtain ⟨la, h1, h⟩ := h
    replace h := ob_some h; obtain ⟨lb, h1', h⟩ := h
    cases h
    obtain ⟨h2, h3⟩ := evs_spec hs h1
    obtain ⟨h2', h3'⟩ := evs_spec hs h1'
    have e1 : x.map a.eval = (V.rfs ρ la).toArray := by rw [← h2]; apply Array.ext'; simp
    have e2 : y.map a.eval = (V.rfs ρ lb).toArray := by rw [← h2']; apply Array.ext'; simp
    exact ⟨⟨h3, h3'⟩, by simp [execOp, e1, e2, Instr.makeFunc, V.rf]⟩
  | nilCheck x =>
    replace h := ob_some h; obtain ⟨p, h1, h⟩ := h
    obtain ⟨h2, h3⟩ := evO_spec hs h1
    match p, h, h2, h3 with
    | .p i f, h, h2, h3 => cases h; exact ⟨h3, by simp [execOp, h2, V.rf]⟩
    | .fn (.func f) x y, h, h2, h3 => cases h; exact ⟨h3, by simp [execOp, h2, V.rf]⟩
    | .c (.func (.func f) x y), h, h2, h3 => cases h; exact ⟨h3, by simp [execOp, h2, V.rf]⟩
  | slice t x lo hi mx =>
    cases mx with
    | some m =>
      replace h := ob_some h; obtain ⟨p, h1, h⟩ := h
      replace h := ob_some h; obtain ⟨l, h1', h⟩ := h
      replace h := ob_some h; obtain ⟨q, h1'', h⟩ := h
      replace h := ob_some h; obtain ⟨r, h1a, h⟩ := h
      obtain ⟨h2, h3⟩ := evO_spec hs h1
      obtain ⟨h4, h5⟩ := slice0F_sound hok (ρ := ρ) h h3 (optF_spec hs h1') (optF_spec hs h1'') (optF_spec hs h1a) w
      exact ⟨h4, by simp only [execOp, h2]; exact val_run h5⟩
    | none =>
    replace h := ob_some h; obtain ⟨p, h1, h⟩ := h
    replace h := ob_some h; obtain ⟨l, h1', h⟩ := h
    replace h := ob_some h; obtain ⟨m, h1'', h⟩ := h
    obtain ⟨h2, h3⟩ := evO_spec hs h1
    obtain ⟨h4, h5⟩ := sliceF_sound hok h h3 (optF_spec hs h1') (optF_spec hs h1'') hw
    exact ⟨h4, by simp only [execOp, h2]; exact val_run h5⟩
  | call c =>
    simp only [qop] at h
    cases hc : c.callee with
    | value f => rw [hc] at h; cases h
    | invoke r m => rw [hc] at h; cases h
    | builtin b =>
      rw [hc] at h
      replace h := ob_some h; obtain ⟨l, h1, h⟩ := h
      obtain ⟨h2, h3⟩ := evs_spec hs h1
      have e1 : c.args.map a.eval = (V.rfs ρ l).toArray := by rw [← h2]; apply Array.ext'; simp
      obtain ⟨kc, hkc⟩ := builtin_run (P := P) a.eval c b hc type
      have key : ∀ v, (builtin b c.argTypes type kc (V.rfs ρ l).toArray).run P w = .ok (.value v) w → (execOp a.eval ⟨dst, .call c, type, pos, after, guard⟩).run P w = .ok (.value v) w := by
        intro v hv
        simp only [execOp]
        rw [hkc w, e1]; exact hv
      unfold builtinF at h
      split at h
      · rename_i t ts x r hts
        have ht : c.argTypes[0]? = some t := by rw [← Array.getElem?_toList, hts]; rfl
        replace h := ob_some h; obtain ⟨ti, hti, h⟩ := h
        obtain ⟨i0, d, z, hi, hd, hz, rfl⟩ := mkTI_spec (hok _ _ hti)
        match x, h, h3, key with
        | .s i k off n, h, h3, key =>
          replace h := gd_some h; obtain ⟨hk, h⟩ := h
          cases h
          have hk' := Nat.eq_of_beq_eq_true hk
          cases d <;> simp [kindOf] at hk'
          exact ⟨trivial, key _ (by simp [builtin, Builtin.len_, ht, V.rfs, V.rf, run_underlying hd, goInt])⟩
        | .z i k off, h, h3, key =>
          replace h := gd_some h; obtain ⟨hk, h⟩ := h
          cases h
          have hk' := Nat.eq_of_beq_eq_true hk
          cases d <;> simp [kindOf] at hk'
          exact ⟨trivial, key _ (by simp [builtin, Builtin.len_, ht, V.rfs, V.rf, run_underlying hd, goInt])⟩
        | .c (.slice b n k), h, h3, key =>
          replace h := gd_some h; obtain ⟨hk, h⟩ := h
          cases h
          have hk' := Nat.eq_of_beq_eq_true hk
          cases d <;> simp [kindOf] at hk'
          exact ⟨trivial, key _ (by simp [builtin, Builtin.len_, ht, V.rfs, V.rf, run_underlying hd, goInt])⟩
        | .c (.string s), h, h3, key =>
          replace h := gd_some h; obtain ⟨hk, h⟩ := h
          cases h
          have hk' := Nat.eq_of_beq_eq_true hk
          cases d <;> simp [kindOf] at hk'
          exact ⟨trivial, key _ (by simp [builtin, Builtin.len_, ht, V.rfs, V.rf, run_underlying hd, goInt])⟩
      · rename_i k x r
        obtain ⟨h4, h5⟩ := mmF_max (P := P) (ρ := ρ) (nx := nx) h
        exact ⟨h4, key _ (by simp [builtin, Builtin.max_, V.rfs, V.rf, h5])⟩
      · rename_i k x r
        obtain ⟨h4, h5⟩ := mmF_min (P := P) (ρ := ρ) (nx := nx) h
        exact ⟨h4, key _ (by simp [builtin, Builtin.min_, V.rfs, V.rf, h5])⟩
      · cases h
  | _ => cases h

abbrev Call' := Nat → List V → Mem → Nat → Option (V × Mem × Nat)
/-- a call: by a known answer, or in full -/
noncomputable def goF (pr : Pr) (call : Call') (f : Nat) (args : List V) (H : Mem) (nx : Nat) : Option (V × Mem × Nat) :=
  match ob (pr.ext.get f) fun g => g args with
  | some u => some (.c u, H, nx)
  | none => match ob (pr.orc.get f) fun g => g args with
    | some u => some (.c u, H, nx)
    | none => call f args H nx
noncomputable def callV (pr : Pr) (call : Call') (fv : V) (args : List V) (H : Mem) (nx : Nat) : Option (V × Mem × Nat) :=
  match fv with
  | .c (.func (.func f) a b) => goF pr call f (cl a.toList ++ args ++ cl b.toList) H nx
  | .fn (.func f) a b => goF pr call f (a ++ args ++ b) H nx
  | _ => none
def isApp : Callee → Bool | .builtin .append => true | _ => false
noncomputable def eopS (pr : Pr) (call : Call') (o : Op) (env : Env) (H : Mem) (nx : Nat) : Option (V × Mem × Nat) :=
  match o with
  | .alloc t => allocF pr H nx t
  | .box t x => ob (evO env x) fun v => boxF H nx t v
  | .store t a x => ob (evO env a) fun p => ob (evO env x) fun v => ob (storeF pr H t p v) fun H' => some (.c undef, H', nx)
  | .makeSlice t l c => ob (evO env l) fun x => ob (evO env c) fun y => makeF pr H nx t x y
  | .buildSlice t n ps => ob (evp env ps.toList) fun l => buildSliceF pr H nx t n l
  | .call c => (match isApp c.callee, c.callee with
    | true, _ => ob (evs env c.args.toList) fun l => appendF pr H nx c.argTypes.toList l
    | false, .value f => ob (evO env f) fun fv => ob (evs env c.args.toList) fun l => callV pr call fv l H nx
    | false, _ => ob (qop pr H.get (.call c) env) fun v => some (v, H, nx))
  | o => ob (qop pr H.get o env) fun v => some (v, H, nx)

noncomputable def evX (x : Operand) : Env → Option V :=
  match x with
  | .tmp t => fun env => Env.get env t
  | .const v => fun _ => some (.c v)
  | .global _ => fun _ => none
  | .func f => fun _ => some (.c (.func (.func f) #[] #[]))
theorem evX_eq (x : Operand) (env : Env) : evX x env = evO env x := by cases x <;> rfl
noncomputable def evsX (xs : List Operand) : Env → Option (List V) :=
  List.rec (motive := fun _ => Env → Option (List V)) (fun _ => some []) (fun x _ ih env => ob (evX x env) fun v => ob (ih env) fun l => some (v :: l)) xs
theorem evsX_eq : ∀ (xs : List Operand) (env : Env), evsX xs env = evs env xs
  | [], _ => rfl
  | x :: r, env => by
    show (ob (evX x env) fun v => ob (evsX r env) fun l => some (v :: l)) = ob (evO env x) fun v => ob (evs env r) fun l => some (v :: l)
    rw [evX_eq, evsX_eq r env]
noncomputable def loadX (pr : Pr) (t : TypeId) : (Nat → Option E) → V → Option V :=
  Option.rec (motive := fun _ => (Nat → Option E) → V → Option V) (fun _ _ => none) (fun ti => Bool.rec (motive := fun _ => (Nat → Option E) → V → Option V)
    (fun H p => match p with | .p i f => ob (H i) fun e => nth e.cells f | _ => none)
    (fun H p => match p with | .p i f => ob (H i) fun e => ob (seg e.cells f ti.size) fun l => some (.agg l) | _ => none) ti.agg) (pr.tab.get t)
theorem loadX_eq (pr : Pr) (t : TypeId) (H : Nat → Option E) (p : V) : loadX pr t H p = loadF pr H t p := by
  unfold loadX loadF
  cases pr.tab.get t with
  | none => rfl
  | some ti =>
    obtain ⟨_, ag, _, _, _, _, _, _, _⟩ := ti
    cases ag <;> cases p <;> rfl
noncomputable def fieldAddrX (pr : Pr) (t : TypeId) (f : Nat) : V → Option V :=
  Option.rec (motive := fun _ => V → Option V) (fun _ => none) (fun ti => Option.rec (motive := fun _ => V → Option V) (fun _ => none) (fun x => Bool.rec (motive := fun _ => V → Option V)
    (fun p => match p with | .p i g => forceN (Nat.add g x.1) fun g => some (.p i g) | _ => none) (fun _ => none) (Nat.beq x.2.1 0)) (nth ti.flds f)) (pr.tab.get t)
theorem fieldAddrX_eq (pr : Pr) (t : TypeId) (f : Nat) (p : V) : fieldAddrX pr t f p = fieldAddrF pr t p f := by
  unfold fieldAddrX fieldAddrF
  cases pr.tab.get t with
  | none => rfl
  | some ti =>
    show Option.rec (motive := fun _ => V → Option V) (fun _ => none) _ (nth ti.flds f) p = ob (nth ti.flds f) _
    cases nth ti.flds f with
    | none => rfl
    | some x =>
      show Bool.rec (motive := fun _ => V → Option V) _ _ (Nat.beq x.2.1 0) p = gd (!Nat.beq x.2.1 0) _
      cases Nat.beq x.2.1 0 <;> cases p <;> rfl
noncomputable def idxX (pr : Pr) (t : TypeId) : V → V → Option V :=
  Option.rec (motive := fun _ => V → V → Option V) (fun _ _ => none) (fun ti => Option.rec (motive := fun _ => V → V → Option V) (fun _ _ => none) (fun te => 
    Bool.rec (motive := fun _ => V → V → Option V) (fun _ _ => none)
      (fun x iv => match iv with
        | .c u => (match u with
          | .int _ z => (match z with
            | .ofNat z => (match x with
              | .s i k off len => gd (Nat.beq k te.size) (gd (!Nat.ble len z) (forceN (Nat.mul (Nat.add off z) k) fun a => some (.p i a)))
              | _ => none)
            | _ => none)
          | _ => none)
        | _ => none) (Nat.beq ti.kind 1)) (pr.tab.get ti.elem)) (pr.tab.get t)
theorem idxX_eq (pr : Pr) (t : TypeId) (x iv : V) : idxX pr t x iv = idxF pr t x iv := by
  unfold idxX idxF
  cases pr.tab.get t with
  | none => rfl
  | some ti =>
    show Option.rec (motive := fun _ => V → V → Option V) (fun _ _ => none) _ (pr.tab.get ti.elem) x iv = ob (pr.tab.get ti.elem) _
    cases pr.tab.get ti.elem with
    | none => rfl
    | some te =>
      cases iv with
      | c u =>
        cases u with
        | int k z =>
          cases z with
          | ofNat z =>
            cases x with
            | s i k off len =>
              show Bool.rec (motive := fun _ => V → V → Option V) (fun _ _ => none) _ (Nat.beq ti.kind 1) (.s i k off len) _ = gd (Nat.beq ti.kind 1 && Nat.beq k te.size && !Nat.ble len z) _
              cases Nat.beq ti.kind 1 with
              | false => rfl
              | true =>
                show gd (Nat.beq k te.size) _ = gd (true && Nat.beq k te.size && !Nat.ble len z) _
                cases Nat.beq k te.size <;> cases Nat.ble len z <;> rfl
            | _ => show Bool.rec (motive := fun _ => V → V → Option V) (fun _ _ => none) _ (Nat.beq ti.kind 1) _ _ = none; cases Nat.beq ti.kind 1 <;> rfl
          | negSucc z => show Bool.rec (motive := fun _ => V → V → Option V) (fun _ _ => none) _ (Nat.beq ti.kind 1) _ _ = none; cases Nat.beq ti.kind 1 <;> rfl
        | _ => show Bool.rec (motive := fun _ => V → V → Option V) (fun _ _ => none) _ (Nat.beq ti.kind 1) _ _ = none; cases Nat.beq ti.kind 1 <;> rfl
      | _ => show Bool.rec (motive := fun _ => V → V → Option V) (fun _ _ => none) _ (Nat.beq ti.kind 1) _ _ = none; cases Nat.beq ti.kind 1 <;> rfl
noncomputable def intX (op : BinOp) : IntKind → Int → Int → Option V :=
  match op with
  | .add => fun k a b => forceI (wrapF k (Int.add a b)) fun z => some (.c (.int k z))
  | .sub => fun k a b => forceI (wrapF k (Int.sub a b)) fun z => some (.c (.int k z))
  | .eql => fun _ a b => forceB (eqI a b) fun t => some (.c (.bool t))
  | .neq => fun _ a b => forceB (!eqI a b) fun t => some (.c (.bool t))
  | .lss => fun _ a b => forceB (!leI b a) fun t => some (.c (.bool t))
  | .leq => fun _ a b => forceB (leI a b) fun t => some (.c (.bool t))
  | .gtr => fun _ a b => forceB (!leI a b) fun t => some (.c (.bool t))
  | .geq => fun _ a b => forceB (leI b a) fun t => some (.c (.bool t))
  | .and => fun k a b => forceI (bitsF .and k a b) fun z => some (.c (.int k z))
  | op => fun k a b => intF op k a b
theorem intX_eq (op : BinOp) (k : IntKind) (a b : Int) : intX op k a b = intF op k a b := by cases op <;> rfl
noncomputable def binX (pr : Pr) (op : BinOp) (t : TypeId) : V → V → Option V := fun x y =>
  match x with
  | .c u => (match u with
    | .int k a => (match y with
      | .c w => (match w with
        | .int k' b => gd (isShift op || kEq k k') (intX op k a b)
        | w => binF pr op t (.c (.int k a)) (.c w))
      | y => binF pr op t (.c (.int k a)) y)
    | u => binF pr op t (.c u) y)
  | x => binF pr op t x y
theorem binX_eq (pr : Pr) (op : BinOp) (t : TypeId) (x y : V) : binX pr op t x y = binF pr op t x y := by
  cases x with
  | c u =>
    cases u with
    | int k a =>
      cases y with
      | c w =>
        cases w with
        | int k' b => show gd (isShift op || kEq k k') (intX op k a b) = gd (isShift op || kEq k k') (intF op k a b); rw [intX_eq]
        | _ => rfl
      | _ => rfl
    | _ => rfl
  | _ => rfl
noncomputable def storeX (pr : Pr) (t : TypeId) : Mem → V → V → Option Mem :=
  Option.rec (motive := fun _ => Mem → V → V → Option Mem) (fun _ _ _ => none) (fun ti H p x => match p with
    | .p i f => ob (H.get i) fun e => ob (cellsF x) fun vs => gd (lenB vs ti.size && oneBs vs && okN i) (ob (setsN e.cells f vs) fun l => some (T.set (some ⟨l, e.k, e.T⟩) D H i))
    | _ => none) (pr.tab.get t)
theorem storeX_eq (pr : Pr) (t : TypeId) (H : Mem) (p x : V) : storeX pr t H p x = storeF pr H t p x := by
  unfold storeX storeF
  cases pr.tab.get t with
  | none => rfl
  | some ti => cases p <;> rfl

noncomputable def eop (pr : Pr) (call : Call') (o : Op) : Env → Mem → Nat → Option (V × Mem × Nat) :=
  match o with
  | .move x => fun env H nx => ob (evX x env) fun v => some (v, H, nx)
  | .assign x => fun env H nx => ob (evX x env) fun v => some (v, H, nx)
  | .load t x => fun env H nx => ob (evX x env) fun p => ob (loadX pr t H.get p) fun v => some (v, H, nx)
  | .fieldAddr t x f => fun env H nx => ob (evX x env) fun p => ob (fieldAddrX pr t f p) fun v => some (v, H, nx)
  | .field t x f => fun env H nx => ob (evX x env) fun p => ob (fieldF pr t p f) fun v => some (v, H, nx)
  | .indexAddr t x i => fun env H nx => ob (evX x env) fun a => ob (evX i env) fun b => ob (idxX pr t a b) fun v => some (v, H, nx)
  | .binOp op t x y _ => fun env H nx => ob (evX x env) fun a => ob (evX y env) fun b => ob (binX pr op t a b) fun v => some (v, H, nx)
  | .alloc t => fun _ H nx => allocF pr H nx t
  | .box t x => fun env H nx => ob (evX x env) fun v => boxF H nx t v
  | .store t a x => fun env H nx => ob (evX a env) fun p => ob (evX x env) fun v => ob (storeX pr t H p v) fun H' => some (.c undef, H', nx)
  | .makeSlice t l c => fun env H nx => ob (evX l env) fun x => ob (evX c env) fun y => makeF pr H nx t x y
  | .buildSlice t n ps => fun env H nx => ob (evp env ps.toList) fun l => buildSliceF pr H nx t n l
  | .call c => (match c.callee with
    | .value f => fun env H nx => ob (evX f env) fun fv => ob (evsX c.args.toList env) fun l => callV pr call fv l H nx
    | c' => (match isApp c' with
      | true => fun env H nx => ob (evsX c.args.toList env) fun l => appendF pr H nx c.argTypes.toList l
      | false => fun env H nx => ob (qop pr H.get (.call c) env) fun v => some (v, H, nx)))
  | o => fun env H nx => ob (qop pr H.get o env) fun v => some (v, H, nx)
theorem ob_ob {α β γ : Type} (x : Option α) (f : α → Option β) (g : β → Option γ) : (ob x fun a => ob (f a) g) = ob (ob x f) g := by cases x <;> rfl
theorem eop_eq {pr : Pr} {call : Call'} {o : Op} {env : Env} {H : Mem} {nx : Nat} : eop pr call o env H nx = eopS pr call o env H nx := by
  cases o with
  | call c =>
    unfold eop eopS
    dsimp only
    cases hc : c.callee with
    | value f => show (ob (evX f env) fun fv => ob (evsX c.args.toList env) fun l => callV pr call fv l H nx) = _; rw [evX_eq, evsX_eq]; rfl
    | builtin b =>
      dsimp only
      cases hb : isApp (.builtin b) with
      | true => show (ob (evsX c.args.toList env) fun l => appendF pr H nx c.argTypes.toList l) = _; rw [evsX_eq]
      | false => rfl
    | invoke r m => rfl
  | move x => show (ob (evX x env) fun v => some (v, H, nx)) = _; rw [evX_eq]; rfl
  | assign x => show (ob (evX x env) fun v => some (v, H, nx)) = _; rw [evX_eq]; rfl
  | load t x => show (ob (evX x env) fun p => ob (loadX pr t H.get p) fun v => some (v, H, nx)) = ob (ob (evO env x) fun p => loadF pr H.get t p) fun v => some (v, H, nx); simp only [evX_eq, loadX_eq, ← ob_ob]
  | fieldAddr t x f => show (ob (evX x env) fun p => ob (fieldAddrX pr t f p) fun v => some (v, H, nx)) = ob (ob (evO env x) fun p => fieldAddrF pr t p f) fun v => some (v, H, nx); simp only [evX_eq, fieldAddrX_eq, ← ob_ob]
  | field t x f => show (ob (evX x env) fun p => ob (fieldF pr t p f) fun v => some (v, H, nx)) = ob (ob (evO env x) fun p => fieldF pr t p f) fun v => some (v, H, nx); rw [evX_eq, ob_ob]
  | indexAddr t x i =>
    show (ob (evX x env) fun a => ob (evX i env) fun b => ob (idxX pr t a b) fun v => some (v, H, nx)) = ob (ob (evO env x) fun a => ob (evO env i) fun b => idxF pr t a b) fun v => some (v, H, nx)
    simp only [evX_eq, idxX_eq, ← ob_ob]
  | binOp op t x y yt =>
    show (ob (evX x env) fun a => ob (evX y env) fun b => ob (binX pr op t a b) fun v => some (v, H, nx)) = ob (ob (evO env x) fun a => ob (evO env y) fun b => binF pr op t a b) fun v => some (v, H, nx)
    simp only [evX_eq, binX_eq, ← ob_ob]
  | box t x => show (ob (evX x env) fun v => boxF H nx t v) = _; rw [evX_eq]; rfl
  | store t a x => show (ob (evX a env) fun p => ob (evX x env) fun v => ob (storeX pr t H p v) fun H' => some (V.c undef, H', nx)) = ob (evO env a) fun p => ob (evO env x) fun v => ob (storeF pr H t p v) fun H' => some (V.c undef, H', nx); rw [evX_eq, evX_eq]; simp only [storeX_eq]
  | makeSlice t l c => show (ob (evX l env) fun x => ob (evX c env) fun y => makeF pr H nx t x y) = _; rw [evX_eq, evX_eq]; rfl
  | _ => rfl

/-- What is known of calls. -/
def CallOk (P : Program) (w0 : World) (call : Call') : Prop := ∀ f args H nx v H' nx', call f args H nx = some (v, H', nx') → (∀ as w, (callFunc f as).run P w = .ok (.enter f as) w) ∧
  ∀ ρ w, Ab w0 ρ nx H.get w → V.lts nx args → Calls P f (V.rfs ρ args).toArray w (fun e w' => ∃ r, e = .returned r ∧ Does w0 ρ nx v H' nx' w' r)
structure OrcOk (P : Program) (w0 : World) (pr : Pr) : Prop where
  orc : ∀ f g args u, pr.orc.get f = some g → g args = some u → (∀ as w, (callFunc f as).run P w = .ok (.enter f as) w) ∧ ∀ ρ w, Ext w0 w → Calls P f (V.rfs ρ args).toArray w (fun e w' => e = .returned u ∧ Ext w w')
  ext : ∀ f g args u, pr.ext.get f = some g → g args = some u → ∀ ρ w, (callFunc f (V.rfs ρ args).toArray).run P w = .ok (.value u) w

theorem Ab.ext' {w0 w w' : World} {ρ : Rho} {nx : Nat} {H : Nat → Option E} (h : Ab w0 ρ nx H w) (he : Ext w w') : Ab w0 ρ nx H w' := by
  refine ⟨h.ext.trans he, h.key, h.new, fun i e hi => ?_, h.inj⟩
  obtain ⟨c, h1, h2, h3⟩ := h.ent i e hi
  exact ⟨c, by rw [he.block _ (lt_size_of_some h1)]; exact h1, h2, h3⟩

include hok in
theorem eop_sound {w0 w : World} {call : Call'} (hc : CallOk P w0 call) (ho : OrcOk P w0 pr) {o : Oper} {env : Env} {a : Act} {n : Nat} {ρ : Rho} {nx nx' : Nat} {H H' : Mem} {v : V} {next : Act → World → Prop} {Q : Exit → Act → World → Prop}
    (h : eop pr call o.op env H nx = some (v, H', nx')) (hs : Sat n ρ nx env a) (hw : Ab w0 ρ nx H.get w) (hn : ∀ r w', Does w0 ρ nx v H' nx' w' r → next (a.put o.dst r) w') : o.wp P a w next Q := by
  rw [eop_eq] at h
  have quiet : (ob (qop pr H.get o.op env) fun v => some (v, H, nx)) = some (v, H', nx') → o.wp P a w next Q := by
    intro h
    replace h := ob_some h; obtain ⟨u, h1, h⟩ := h
    cases h
    obtain ⟨h2, h3⟩ := qop_sound hok hs hw h1
    unfold Oper.wp
    rw [h3, Oper.upon_value]
    exact hn _ _ ⟨ρ, rfl, fun _ _ => rfl, Nat.le_refl _, h2, hw⟩
  obtain ⟨dst, op, type, pos, after, guard⟩ := o
  have fin : ∀ {s : Sem Value} {r : Value} {w' : World}, (execOp a.eval ⟨dst, op, type, pos, after, guard⟩) = (do pure (Next.value (← s)) : Sem Next) → s.run P w = .ok r w' → Does w0 ρ nx v H' nx' w' r →
      Oper.wp P ⟨dst, op, type, pos, after, guard⟩ a w next Q := by
    intro s r w' he hr hd
    unfold Oper.wp
    rw [he, val_run hr, Oper.upon_value]
    exact hn _ _ hd
  cases op with
  | alloc t =>
    obtain ⟨r, w', h1, h2⟩ := allocF_sound hok h hw
    exact fin (s := Instr.alloc t true (.tuple #[])) (by simp only [execOp]) h1 h2
  | box t x =>
    replace h := ob_some h; obtain ⟨u, h1, h⟩ := h
    obtain ⟨h2, h3⟩ := evO_spec hs h1
    obtain ⟨r, w', h4, h5⟩ := boxF_sound (P := P) h h3 hw
    exact fin (s := Instr.box t (a.eval x)) (by simp only [execOp]) (by rw [h2]; exact h4) h5
  | store t x y =>
    replace h := ob_some h; obtain ⟨p, h1, h⟩ := h
    replace h := ob_some h; obtain ⟨u, h1', h⟩ := h
    replace h := ob_some h; obtain ⟨H2, h1'', h⟩ := h
    cases h
    obtain ⟨h2, h3⟩ := evO_spec hs h1
    obtain ⟨h2', h3'⟩ := evO_spec hs h1'
    obtain ⟨w', h4, h5⟩ := storeF_sound hok h1'' h3' hw
    unfold Oper.wp
    simp only [execOp, h2, h2', Sem.run_bind, h4, Result.andThen_ok, Sem.run_pure, Oper.upon_skip]
    exact hn undef w' ⟨ρ, rfl, fun _ _ => rfl, Nat.le_refl _, trivial, h5⟩
  | makeSlice t x y =>
    replace h := ob_some h; obtain ⟨p, h1, h⟩ := h
    replace h := ob_some h; obtain ⟨u, h1', h⟩ := h
    obtain ⟨h2, h3⟩ := evO_spec hs h1
    obtain ⟨h2', h3'⟩ := evO_spec hs h1'
    obtain ⟨r, w', h4, h5⟩ := makeF_sound hok h hw
    exact fin (s := Instr.makeSlice t (a.eval x) (a.eval y)) (by simp only [execOp]) (by rw [h2, h2']; exact h4) h5
  | buildSlice t m ps =>
    replace h := ob_some h; obtain ⟨l, h1, h⟩ := h
    obtain ⟨h2, h3⟩ := evp_spec hs h1
    obtain ⟨r, w', h4, h5⟩ := buildSliceF_sound hok h h3 hw
    have e : (ps.map fun (i, x) => (i, a.eval x)) = (l.map fun p => (p.1, p.2.rf ρ)).toArray := by
      rw [← h2]; apply Array.ext'; simp
    exact fin (s := Instr.buildSlice t m (ps.map fun (i, x) => (i, a.eval x))) (by simp only [execOp]) (by rw [e]; exact h4) h5
  | call c =>
    simp only [eopS] at h
    cases hb : isApp c.callee with
    | true =>
      rw [hb] at h
      have hca : c.callee = .builtin .append := by
        cases hcc : c.callee with
        | builtin b => rw [hcc] at hb; cases b <;> first | rfl | (simp [isApp] at hb)
        | value f => rw [hcc] at hb; cases hb
        | invoke r m => rw [hcc] at hb; cases hb
      replace h := ob_some h; obtain ⟨l, h1, h⟩ := h
      obtain ⟨h2, h3⟩ := evs_spec hs h1
      obtain ⟨r, w', h4, h5⟩ := appendF_sound hok (ty := type) h h3 hw
      have e1 : c.args.map a.eval = (V.rfs ρ l).toArray := by rw [← h2]; apply Array.ext'; simp
      obtain ⟨kc, hkc⟩ := builtin_run (P := P) a.eval c .append hca type
      unfold Oper.wp
      have : (execOp a.eval ⟨dst, .call c, type, pos, after, guard⟩).run P w = .ok (.value r) w' := by
        simp only [execOp]
        rw [hkc w, e1]
        simp only [builtin, Sem.run_bind, h4, Result.andThen_ok, Sem.run_pure]
      rw [this, Oper.upon_value]
      exact hn _ _ h5
    | false =>
      rw [hb] at h
      cases hcc : c.callee with
      | builtin b => rw [hcc] at h; exact quiet h
      | invoke r m => rw [hcc] at h; exact quiet h
      | value f =>
        rw [hcc] at h
        replace h := ob_some h; obtain ⟨fv, h1, h⟩ := h
        replace h := ob_some h; obtain ⟨l, h1', h⟩ := h
        obtain ⟨h2, h3⟩ := evO_spec hs h1
        obtain ⟨h2', h3'⟩ := evs_spec hs h1'
        have e1 : c.args.map a.eval = (V.rfs ρ l).toArray := by rw [← h2']; apply Array.ext'; simp
        have run : ∀ (f' : FuncId) (x y : Array Value), a.eval f = .func (.func f') x y → (execOp a.eval ⟨dst, .call c, type, pos, after, guard⟩).run P w = (callFunc f' (x ++ (V.rfs ρ l).toArray ++ y)).run P w := by
          intro f' x y hf
          simp only [execOp, resolve, hcc, e1, hf, Deferred.ofValue, Sem.run_bind, Sem.run_pure, Result.andThen_ok, invoke]
        have fin2 : ∀ (f' : FuncId) (x y : Array Value) (args : List V), a.eval f = .func (.func f') x y → x ++ (V.rfs ρ l).toArray ++ y = (V.rfs ρ args).toArray → V.lts nx args → goF pr call f' args H nx = some (v, H', nx') → Oper.wp P ⟨dst, .call c, type, pos, after, guard⟩ a w next Q := by
          intro f' x y args hf hargs hlt hg
          unfold Oper.wp
          rw [run f' x y hf, hargs]
          unfold goF at hg
          split at hg
          · rename_i u hu
            replace hu := ob_some hu; obtain ⟨g, hg1, hg2⟩ := hu
            cases hg
            rw [ho.ext f' g args u hg1 hg2 ρ w, Oper.upon_value]
            exact hn _ _ ⟨ρ, rfl, fun _ _ => rfl, Nat.le_refl _, trivial, hw⟩
          · split at hg
            · rename_i u hu
              replace hu := ob_some hu; obtain ⟨g, hg1, hg2⟩ := hu
              cases hg
              obtain ⟨k1, k2⟩ := ho.orc f' g args u hg1 hg2
              rw [k1, Oper.upon_enter]
              refine (k2 ρ w hw.ext).mono fun e w' he => ?_
              obtain ⟨rfl, he⟩ := he
              exact hn _ _ ⟨ρ, rfl, fun _ _ => rfl, Nat.le_refl _, trivial, hw.ext' he⟩
            · obtain ⟨k1, k2⟩ := hc f' args H nx v H' nx' hg
              rw [k1, Oper.upon_enter]
              refine (k2 ρ w hw hlt).mono fun e w' he => ?_
              obtain ⟨r, rfl, he⟩ := he
              exact hn _ _ he
        match fv, h, h2, h3 with
        | .c (.func (.func f') x y), h, h2, h3 =>
          refine fin2 f' x y _ h2 ?_ ?_ h
          · rw [rfs_append, rfs_append, rfs_cl, rfs_cl]; apply Array.ext'; simp
          · exact V.lts_iff.2 fun u hu => by
              rcases List.mem_append.1 hu with hu | hu
              · rcases List.mem_append.1 hu with hu | hu
                · exact V.lts_iff.1 (lts_cl _ _) u hu
                · exact V.lts_iff.1 h3' u hu
              · exact V.lts_iff.1 (lts_cl _ _) u hu
        | .fn (.func f') x y, h, h2, h3 =>
          refine fin2 f' _ _ _ h2 ?_ ?_ h
          · rw [rfs_append, rfs_append]; apply Array.ext'; simp
          · exact V.lts_iff.2 fun u hu => by
              rcases List.mem_append.1 hu with hu | hu
              · rcases List.mem_append.1 hu with hu | hu
                · exact V.lts_iff.1 h3.1 u hu
                · exact V.lts_iff.1 h3' u hu
              · exact V.lts_iff.1 h3.2 u hu
  | _ => exact quiet h
end
end Go.CE

/- SxCeH -/
namespace Go.CE
open Go.RowKit Go.SX

noncomputable def putE (n : Nat) (env : Env) (d : Option Tmp) (v : V) : Option Env :=
  match d with
  | some t => gd (Nat.ble (Nat.succ t) n && okN t) (some (T.set (some v) D env t))
  | none => some env
theorem Sat.put {n : Nat} {ρ ρ' : Rho} {nx nx' : Nat} {env env' : Env} {a : Act} {d : Option Tmp} {v : V} (hs : Sat n ρ nx env a) (h : putE n env d v = some env') (hr : ∀ i, i < nx → ρ' i = ρ i) (hn : nx ≤ nx') (hv : v.lt nx') {r : Value} (hrv : r = v.rf ρ') :
    Sat n ρ' nx' env' (a.put d r) := by
  subst hrv
  have old : ∀ t u, env.get t = some u → a.tmps[t]? = some (u.rf ρ') ∧ u.lt nx' := fun t u hu => by
    obtain ⟨h1, h2⟩ := hs.val t u hu
    exact ⟨by rw [h1, V.rf_lt hr h2], V.lt.mono hn h2⟩
  cases d with
  | none => cases h; exact ⟨hs.defers, hs.size, old⟩
  | some d =>
    replace h := gd_some h; obtain ⟨hg, h⟩ := h
    cases h
    simp only [Bool.and_eq_true] at hg
    have hd := Nat.le_of_ble_eq_true hg.1
    refine ⟨hs.defers, by simp [Act.put, hs.size], fun t u hu => ?_⟩
    rw [Env.get, get_setN _ _ _ hg.2] at hu
    simp only [Act.put]
    by_cases ht : t = d
    · subst ht
      rw [if_pos rfl] at hu
      cases hu
      refine ⟨?_, hv⟩
      rw [Array.getElem?_setIfInBounds_self_of_lt (by rw [hs.size]; exact hd)]
    · rw [if_neg ht] at hu
      rw [Array.getElem?_setIfInBounds_ne (Ne.symm ht)]
      exact old t u hu

noncomputable def guardF (ops : List Oper) (g : Option (Nat × Bool)) (env : Env) : Option Bool :=
  match g with
  | none => some true
  | some (j, want) => (match dstOf ops j with
    | none => some false
    | some t => ob (env.get t) fun v => match v, want with
      | .c (.bool true), true => some true
      | .c (.bool true), false => some false
      | .c (.bool false), true => some false
      | .c (.bool false), false => some true
      | .c (.tuple _), _ => some false
      | _, _ => none)
theorem guardF_spec {n : Nat} {ops : Array Oper} {o : Oper} {env : Env} {a : Act} {ρ : Rho} {nx : Nat} {b : Bool} (hs : Sat n ρ nx env a) (h : guardF ops.toList o.guard env = some b) : Region.wanted o (yielded ops a.tmps) = b := by
  unfold guardF at h
  unfold Region.wanted
  cases hg : o.guard with
  | none => rw [hg] at h; cases h; rfl
  | some gw =>
    obtain ⟨j, want⟩ := gw
    rw [hg] at h
    dsimp only at h ⊢
    rw [dstOf_eq] at h
    unfold yielded
    simp only [Array.getElem?_toList] at h
    cases hd : (ops[j]?).bind (·.dst) with
    | none => rw [hd] at h; cases h; rfl
    | some t =>
      rw [hd] at h
      replace h := ob_some h; obtain ⟨v, hv, h⟩ := h
      obtain ⟨h1, _⟩ := hs.val t v hv
      simp only [Option.bind_some, h1]
      split at h <;> first | (cases h; done) | (cases h; simp [V.rf])

structure S3 where
  env : Env
  H : Mem
  nx : Nat

noncomputable def regF (pr : Pr) (call : Call') (n : Nat) (ops : List Oper) (l : List Oper) : S3 → Option S3 :=
  List.rec (motive := fun _ => S3 → Option S3) (fun s => some s) (fun o _ ih s => ob (guardF ops o.guard s.env) fun b => Bool.rec (motive := fun _ => Option S3)
    (ob (putE n s.env o.dst (.c undef)) fun env => ih ⟨env, s.H, s.nx⟩)
    (ob (eop pr call o.op s.env s.H s.nx) fun x => ob (putE n s.env o.dst x.1) fun env => ih ⟨env, x.2.1, x.2.2⟩) b) l

/-- the state stands so in a world -/
structure At (w0 : World) (n : Nat) (ρ : Rho) (s : S3) (a : Act) (w : World) : Prop where
  sat : Sat n ρ s.nx s.env a
  ab : Ab w0 ρ s.nx s.H.get w

section
variable {P : Program} {pr : Pr} {w0 : World} {call : Call'} (hok : ∀ t ti, pr.tab.get t = some ti → mkTI P t = some ti) (hc : CallOk P w0 call) (ho : OrcOk P w0 pr)

include hok hc ho in
/-- one operation that is due, and what comes behind -/
theorem op_step {n : Nat} {ops : Array Oper} {o : Oper} {s s' : S3} {ρ : Rho} {a : Act} {w : World} {Q : Exit → Act → World → Prop} {next : Act → World → Prop} (ht : At w0 n ρ s a w)
    (h : (ob (guardF ops.toList o.guard s.env) fun b => match b with
      | true => ob (eop pr call o.op s.env s.H s.nx) fun x => ob (putE n s.env o.dst x.1) fun env => some (S3.mk env x.2.1 x.2.2)
      | false => ob (putE n s.env o.dst (.c undef)) fun env => some (S3.mk env s.H s.nx)) = some s')
    (hn : ∀ ρ' a' w', (∀ i, i < s.nx → ρ' i = ρ i) → s.nx ≤ s'.nx → At w0 n ρ' s' a' w' → next a' w') :
    if Region.wanted o (yielded ops a.tmps) then o.wp P a w next Q else next (a.put o.dst undef) w := by
  replace h := ob_some h; obtain ⟨b, hb, h⟩ := h
  rw [guardF_spec ht.sat hb]
  cases b with
  | true =>
    replace h := ob_some h; obtain ⟨⟨v, H', nx'⟩, h1, h⟩ := h
    replace h := ob_some h; obtain ⟨env, h2, h⟩ := h
    cases h
    rw [if_pos rfl]
    refine eop_sound hok hc ho h1 ht.sat ht.ab fun r w' hd => ?_
    obtain ⟨ρ', g1, g2, g3, g4, g5⟩ := hd
    exact hn ρ' _ w' g2 g3 ⟨ht.sat.put h2 g2 g3 g4 g1, g5⟩
  | false =>
    replace h := ob_some h; obtain ⟨env, h2, h⟩ := h
    cases h
    rw [if_neg (by simp)]
    exact hn ρ _ w (fun _ _ => rfl) (Nat.le_refl _) ⟨ht.sat.put h2 (fun _ _ => rfl) (Nat.le_refl _) trivial rfl, ht.ab⟩

include hok hc ho in
theorem regF_sound {n : Nat} {ops : Array Oper} : ∀ {l : List Oper} {s s' : S3} {ρ : Rho} {a : Act} {w : World} {Q : Exit → Act → World → Prop}, regF pr call n ops.toList l s = some s' → At w0 n ρ s a w →
    (∀ ρ' a' w', (∀ i, i < s.nx → ρ' i = ρ i) → s.nx ≤ s'.nx → At w0 n ρ' s' a' w' → Q .normal a' w') → wpList P ops Q l a w
  | [], s, s', ρ, a, w, Q, h, ht, hq => by cases h; exact hq ρ a w (fun _ _ => rfl) (Nat.le_refl _) ht
  | o :: r, s, s', ρ, a, w, Q, h, ht, hq => by
    replace h : (ob (guardF ops.toList o.guard s.env) fun b => Bool.rec (motive := fun _ => Option S3)
      (ob (putE n s.env o.dst (.c undef)) fun env => regF pr call n ops.toList r ⟨env, s.H, s.nx⟩)
      (ob (eop pr call o.op s.env s.H s.nx) fun x => ob (putE n s.env o.dst x.1) fun env => regF pr call n ops.toList r ⟨env, x.2.1, x.2.2⟩) b) = some s' := h
    have split : ∃ m, (ob (guardF ops.toList o.guard s.env) fun b => match b with
        | true => ob (eop pr call o.op s.env s.H s.nx) fun x => ob (putE n s.env o.dst x.1) fun env => some (S3.mk env x.2.1 x.2.2)
        | false => ob (putE n s.env o.dst (.c undef)) fun env => some (S3.mk env s.H s.nx)) = some m ∧ regF pr call n ops.toList r m = some s' := by
      replace h := ob_some h; obtain ⟨b, hb, h⟩ := h
      cases b with
      | true =>
        replace h := ob_some h; obtain ⟨x, h1, h⟩ := h
        replace h := ob_some h; obtain ⟨env, h2, h⟩ := h
        exact ⟨_, by rw [hb]; show (ob (eop pr call o.op s.env s.H s.nx) _) = _; rw [h1]; show (ob (putE n s.env o.dst x.1) _) = _; rw [h2]; rfl, h⟩
      | false =>
        replace h := ob_some h; obtain ⟨env, h2, h⟩ := h
        exact ⟨_, by rw [hb]; show (ob (putE n s.env o.dst (.c undef)) _) = _; rw [h2]; rfl, h⟩
    obtain ⟨m, h1, h2⟩ := split
    unfold wpList
    have := op_step hok hc ho (Q := Q) (next := fun a' w' => wpList P ops Q r a' w') ht h1 fun ρ' a' w' g1 g2 g3 =>
      regF_sound h2 g3 fun ρ'' a'' w'' k1 k2 k3 => hq ρ'' a'' w'' (fun i hi => (k1 i (Nat.lt_of_lt_of_le hi g2)).trans (g1 i hi)) (Nat.le_trans g2 k2) k3
    split at this
    · rename_i hw; rw [if_pos hw]; exact .inl this
    · rename_i hw; rw [if_neg hw]; exact this
end
end Go.CE

/- SxCeI -/
namespace Go.CE
open Go.RowKit Go.SX

def eqC (a b : Value) : Bool :=
  match a, b with
  | .int k x, .int k' y => kEq k k' && eqI x y
  | .bool x, .bool y => (match x, y with | true, true => true | false, false => true | _, _ => false)
  | .pointer none, .pointer none => true
  | .slice none 0 0, .slice none 0 0 => true
  | .nilFunc, .nilFunc => true
  | .nilIface, .nilIface => true
  | .tuple x, .tuple y => (match x.toList, y.toList with | [], [] => true | _, _ => false)
  | .func (.func f) x y, .func (.func g) x' y' => Nat.beq f g && (match x.toList, y.toList, x'.toList, y'.toList with | [], [], [], [] => true | _, _, _, _ => false)
  | _, _ => false
theorem eqC_eq {a b : Value} (h : eqC a b = true) : a = b := by
  unfold eqC at h
  split at h
  · simp only [Bool.and_eq_true] at h
    rw [kEq_eq h.1]
    rw [eqI_eq] at h
    rw [of_decide_eq_true h.2]
  · split at h <;> first | rfl | cases h
  · rfl
  · rfl
  · rfl
  · rfl
  · rename_i x y
    split at h
    · rename_i h1 h2
      obtain ⟨x⟩ := x; obtain ⟨y⟩ := y
      simp at h1 h2; subst h1; subst h2; rfl
    · cases h
  · rename_i f x y g x' y'
    simp only [Bool.and_eq_true] at h
    have := Nat.eq_of_beq_eq_true h.1
    subst this
    have h2 := h.2
    split at h2
    · rename_i h3 h4 h5 h6
      obtain ⟨x⟩ := x; obtain ⟨y⟩ := y; obtain ⟨x'⟩ := x'; obtain ⟨y'⟩ := y'
      simp at h3 h4 h5 h6; subst h3; subst h4; subst h5; subst h6; rfl
    · cases h2
  · cases h

def eqFn (a b : Fn) : Bool := match a, b with | .func f, .func g => Nat.beq f g | _, _ => false
theorem eqFn_eq {a b : Fn} (h : eqFn a b = true) : a = b := by
  unfold eqFn at h
  split at h
  · rw [Nat.eq_of_beq_eq_true h]
  · cases h
mutual
/-- b, its numbers turned, is a -/
def eqV (th : Nat → Nat) : V → V → Bool
  | .c x, a => (match a with | .c y => eqC x y | _ => false)
  | .p i f, a => (match a with | .p j g => Nat.beq (th i) j && Nat.beq f g | _ => false)
  | .s i k o l, a => (match a with | .s j k' o' l' => Nat.beq (th i) j && Nat.beq k k' && Nat.beq o o' && Nat.beq l l' | _ => false)
  | .z i k o, a => (match a with | .z j k' o' => Nat.beq (th i) j && Nat.beq k k' && Nat.beq o o' | _ => false)
  | .agg x, a => (match a with | .agg y => eqVs th x y | _ => false)
  | .tup x, a => (match a with | .tup y => eqVs th x y | _ => false)
  | .fn f x y, a => (match a with | .fn g x' y' => eqFn f g && eqVs th x x' && eqVs th y y' | _ => false)
  | .ifc _ _, _ => false
def eqVs (th : Nat → Nat) : List V → List V → Bool
  | [], l => (match l with | [] => true | _ => false)
  | b :: r, l => (match l with | a :: s => eqV th b a && eqVs th r s | [] => false)
end
mutual
theorem eqV_sound {th : Nat → Nat} {m : Nat} {ρ ρ' : Rho} (hr : ∀ i, i < m → ρ' (th i) = ρ i) : ∀ {b a : V}, eqV th b a = true → b.lt m → a.rf ρ' = b.rf ρ
  | .c x, a, h, hb => by
    unfold eqV at h
    split at h
    · simp only [V.rf]; exact (eqC_eq h).symm
    · cases h
  | .p i f, a, h, hb => by
    unfold eqV at h
    split at h
    · simp only [Bool.and_eq_true] at h
      have h1 := Nat.eq_of_beq_eq_true h.1
      have h2 := Nat.eq_of_beq_eq_true h.2
      subst h1; subst h2
      simp only [V.rf]; rw [hr i hb]
    · cases h
  | .s i k o l, a, h, hb => by
    unfold eqV at h
    split at h
    · simp only [Bool.and_eq_true] at h
      have h1 := Nat.eq_of_beq_eq_true h.1.1.1
      have h2 := Nat.eq_of_beq_eq_true h.1.1.2
      have h3 := Nat.eq_of_beq_eq_true h.1.2
      have h4 := Nat.eq_of_beq_eq_true h.2
      subst h1; subst h2; subst h3; subst h4
      simp only [V.rf]; rw [hr i hb]
    · cases h
  | .z i k o, a, h, hb => by
    unfold eqV at h
    split at h
    · simp only [Bool.and_eq_true] at h
      have h1 := Nat.eq_of_beq_eq_true h.1.1
      have h2 := Nat.eq_of_beq_eq_true h.1.2
      have h3 := Nat.eq_of_beq_eq_true h.2
      subst h1; subst h2; subst h3
      simp only [V.rf]; rw [hr i hb]
    · cases h
  | .agg x, a, h, hb => by
    unfold eqV at h
    split at h
    · simp only [V.rf]; rw [eqVs_sound hr h hb]
    · cases h
  | .tup x, a, h, hb => by
    unfold eqV at h
    split at h
    · simp only [V.rf]; rw [eqVs_sound hr h hb]
    · cases h
  | .fn f x y, a, h, hb => by
    unfold eqV at h
    split at h
    · simp only [Bool.and_eq_true] at h
      simp only [V.rf]
      rw [eqFn_eq h.1.1, eqVs_sound hr h.1.2 hb.1, eqVs_sound hr h.2 hb.2]
    · cases h
  | .ifc _ _, a, h, hb => by unfold eqV at h; cases h
theorem eqVs_sound {th : Nat → Nat} {m : Nat} {ρ ρ' : Rho} (hr : ∀ i, i < m → ρ' (th i) = ρ i) : ∀ {b a : List V}, eqVs th b a = true → V.lts m b → V.rfs ρ' a = V.rfs ρ b
  | [], a, h, hb => by
    unfold eqVs at h
    split at h
    · rfl
    · cases h
  | b :: r, a, h, hb => by
    unfold eqVs at h
    split at h
    · simp only [Bool.and_eq_true] at h
      simp only [V.rfs]
      rw [eqV_sound hr h.1 hb.1, eqVs_sound hr h.2 hb.2]
    · cases h
end
mutual
theorem eqV_lt {th : Nat → Nat} {m m' : Nat} (hm : ∀ i, i < m → th i < m') : ∀ {b a : V}, eqV th b a = true → b.lt m → a.lt m'
  | .c x, a, h, hb => by
    unfold eqV at h
    split at h
    · trivial
    · cases h
  | .p i f, a, h, hb => by
    unfold eqV at h
    split at h
    · simp only [Bool.and_eq_true] at h
      have h1 := Nat.eq_of_beq_eq_true h.1
      subst h1; exact hm i hb
    · cases h
  | .s i k o l, a, h, hb => by
    unfold eqV at h
    split at h
    · simp only [Bool.and_eq_true] at h
      have h1 := Nat.eq_of_beq_eq_true h.1.1.1
      subst h1; exact hm i hb
    · cases h
  | .z i k o, a, h, hb => by
    unfold eqV at h
    split at h
    · simp only [Bool.and_eq_true] at h
      have h1 := Nat.eq_of_beq_eq_true h.1.1
      subst h1; exact hm i hb
    · cases h
  | .agg x, a, h, hb => by
    unfold eqV at h
    split at h
    · exact eqVs_lt hm h hb
    · cases h
  | .tup x, a, h, hb => by
    unfold eqV at h
    split at h
    · exact eqVs_lt hm h hb
    · cases h
  | .fn f x y, a, h, hb => by
    unfold eqV at h
    split at h
    · simp only [Bool.and_eq_true] at h
      exact ⟨eqVs_lt hm h.1.2 hb.1, eqVs_lt hm h.2 hb.2⟩
    · cases h
  | .ifc _ _, a, h, hb => by unfold eqV at h; cases h
theorem eqVs_lt {th : Nat → Nat} {m m' : Nat} (hm : ∀ i, i < m → th i < m') : ∀ {b a : List V}, eqVs th b a = true → V.lts m b → V.lts m' a
  | [], a, h, hb => by
    unfold eqVs at h
    split at h
    · trivial
    · cases h
  | b :: r, a, h, hb => by
    unfold eqVs at h
    split at h
    · simp only [Bool.and_eq_true] at h
      exact ⟨eqV_lt hm h.1 hb.1, eqVs_lt hm h.2 hb.2⟩
    · cases h
end
noncomputable def eqE (th : Nat → Nat) (b a : Option E) : Bool :=
  match b, a with
  | none, none => true
  | some x, some y => eqVs th x.cells y.cells && Nat.beq x.k y.k && Nat.beq x.T y.T
  | _, _ => false
noncomputable def eqO (th : Nat → Nat) (b a : Option V) : Bool :=
  match b, a with
  | none, none => true
  | some x, some y => eqV th x y
  | _, _ => false
/-- p of all below n -/
def allN (p : Nat → Bool) : Nat → Bool
  | 0 => true
  | n + 1 => match p n with | true => allN p n | false => false
theorem allN_spec {p : Nat → Bool} : ∀ {n : Nat}, allN p n = true → ∀ i, i < n → p i = true
  | 0, _, i, hi => absurd hi (Nat.not_lt_zero i)
  | n + 1, h, i, hi => by
    unfold allN at h
    cases hp : p n with
    | false => rw [hp] at h; cases h
    | true =>
      rw [hp] at h
      rcases Nat.lt_succ_iff_lt_or_eq.1 hi with hi | rfl
      · exact allN_spec h i hi
      · exact hp

abbrev Log := List (Nat × Nat × Nat)
def logAt (i : Nat) : Log → Option Nat
  | [] => none
  | (j, s, _) :: r => match Nat.beq j i with | true => some s | false => logAt i r
/-- a number out of the log b, in the log a -/
def thF (nx0 : Nat) (la lb : Log) (x : Nat) : Nat :=
  match Nat.ble (Nat.succ x) nx0 with
  | true => x
  | false => go lb
where
  go : Log → Nat
    | [] => x
    | (i, s, c) :: r => match Nat.ble s x && Nat.ble (Nat.succ x) (s + c) with
      | true => (match logAt i la with | some s' => s' + (x - s) | none => x)
      | false => go r
/-- B's state is A's, by other numbers -/
noncomputable def sameUp (n nx0 : Nat) (la lb : Log) (A B : S3) : Bool :=
  Nat.beq A.nx B.nx && allN (fun x => Nat.ble (Nat.succ (thF nx0 la lb x)) A.nx && Nat.beq (thF nx0 lb la (thF nx0 la lb x)) x && (match Nat.ble (Nat.succ x) nx0 with | true => Nat.beq (thF nx0 la lb x) x | false => true)) B.nx
    && allN (fun y => eqE (thF nx0 la lb) (B.H.get (thF nx0 lb la y)) (A.H.get y) && Nat.ble (Nat.succ (thF nx0 lb la y)) B.nx && Nat.beq (thF nx0 la lb (thF nx0 lb la y)) y) A.nx
    && allN (fun t => eqO (thF nx0 la lb) (B.env.get t) (A.env.get t)) n

theorem lt_of_ble {a b : Nat} (h : Nat.ble (Nat.succ a) b = true) : a < b := Nat.le_of_ble_eq_true h

theorem sameUp_sound {w0 : World} {n nx0 : Nat} {la lb : Log} {A B : S3} (h : sameUp n nx0 la lb A B = true) (hA : ∃ ρ a w, At w0 n ρ A a w) {ρ : Rho} {a : Act} {w : World} (hB : At w0 n ρ B a w) (h0 : nx0 ≤ B.nx) :
    ∃ ρ', (∀ i, i < nx0 → ρ' i = ρ i) ∧ At w0 n ρ' A a w := by
  have hkey : ∀ i e, A.H.get i = some e → i < A.nx := fun i e he => by obtain ⟨_, _, _, hA⟩ := hA; exact (hA.ab.key i e he).1
  have hslot : ∀ t v, A.env.get t = some v → t < n := fun t v ht => by
    obtain ⟨_, _, _, hA⟩ := hA
    have h1 := (hA.sat.val t v ht).1
    rw [← hA.sat.size]
    exact lt_size_of_some h1
  unfold sameUp at h
  simp only [Bool.and_eq_true] at h
  obtain ⟨⟨⟨h1, h2⟩, h3⟩, h4⟩ := h
  have e1 := Nat.eq_of_beq_eq_true h1
  have g2 : ∀ x, x < B.nx → thF nx0 la lb x < A.nx ∧ thF nx0 lb la (thF nx0 la lb x) = x ∧ (x < nx0 → thF nx0 la lb x = x) := fun x hx => by
    have := allN_spec h2 x hx
    simp only [Bool.and_eq_true] at this
    refine ⟨lt_of_ble this.1.1, Nat.eq_of_beq_eq_true this.1.2, fun hx0 => ?_⟩
    have h5 := this.2
    rw [Nat.ble_eq_true_of_le (show Nat.succ x ≤ nx0 from hx0)] at h5
    exact Nat.eq_of_beq_eq_true h5
  have g3 : ∀ y, y < A.nx → eqE (thF nx0 la lb) (B.H.get (thF nx0 lb la y)) (A.H.get y) = true ∧ thF nx0 lb la y < B.nx ∧ thF nx0 la lb (thF nx0 lb la y) = y := fun y hy => by
    have := allN_spec h3 y hy
    simp only [Bool.and_eq_true] at this
    exact ⟨this.1.1, lt_of_ble this.1.2, Nat.eq_of_beq_eq_true this.2⟩
  let ρ' : Rho := fun j => ρ (thF nx0 lb la j)
  have hr : ∀ i, i < B.nx → ρ' (thF nx0 la lb i) = ρ i := fun i hi => by show ρ (thF nx0 lb la (thF nx0 la lb i)) = _; rw [(g2 i hi).2.1]
  have hm : ∀ i, i < B.nx → thF nx0 la lb i < A.nx := fun i hi => (g2 i hi).1
  have hent : ∀ i e, A.H.get i = some e → ∃ e', B.H.get (thF nx0 lb la i) = some e' ∧ eqVs (thF nx0 la lb) e'.cells e.cells = true ∧ e'.k = e.k ∧ e'.T = e.T := fun i e he => by
    obtain ⟨k1, _, _⟩ := g3 i (hkey i e he)
    rw [he] at k1
    cases hb : B.H.get (thF nx0 lb la i) with
    | none => rw [hb] at k1; cases k1
    | some e' =>
      rw [hb] at k1
      simp only [eqE, Bool.and_eq_true] at k1
      exact ⟨e', rfl, k1.1.1, Nat.eq_of_beq_eq_true k1.1.2, Nat.eq_of_beq_eq_true k1.2⟩
  refine ⟨ρ', fun i hi => ?_, ⟨hB.sat.defers, hB.sat.size, fun t v ht => ?_⟩, ⟨hB.ab.ext, fun i e he => ?_, fun i e he => ?_, fun i e he => ?_, fun i j e e' k1 k2 k3 => ?_⟩⟩
  · have := hr i (Nat.lt_of_lt_of_le hi h0)
    rw [(g2 i (Nat.lt_of_lt_of_le hi h0)).2.2 hi] at this
    exact this
  · have k1 := allN_spec h4 t (hslot t v ht)
    rw [ht] at k1
    cases hb : B.env.get t with
    | none => rw [hb] at k1; cases k1
    | some u =>
      rw [hb] at k1
      obtain ⟨k2, k3⟩ := hB.sat.val t u hb
      exact ⟨by rw [k2, eqV_sound hr k1 k3], eqV_lt hm k1 k3⟩
  · obtain ⟨e', k1, k2, _, _⟩ := hent i e he
    exact ⟨hkey i e he, eqVs_lt hm k2 (hB.ab.key _ _ k1).2⟩
  · obtain ⟨e', k1, _⟩ := hent i e he
    exact hB.ab.new _ _ k1
  · obtain ⟨e', k1, k2, k3, k4⟩ := hent i e he
    obtain ⟨c, c1, c2, c3⟩ := hB.ab.ent _ _ k1
    have hlen : e.cells.length = e'.cells.length := by
      have := congrArg List.length (eqVs_sound hr k2 (hB.ab.key _ _ k1).2)
      rw [rfs_length, rfs_length] at this; exact this
    refine ⟨c, by rw [← k4]; exact c1, by rw [← k3, hlen]; exact c2, fun p v hp => ?_⟩
    have e2 := rfs_get (ρ := ρ') hp
    rw [eqVs_sound hr k2 (hB.ab.key _ _ k1).2] at e2
    obtain ⟨u, hu, e3⟩ := rfs_get_inv e2
    rw [← e3]; exact c3 p u hu
  · obtain ⟨x, m1, _⟩ := hent i e k1
    obtain ⟨y, m2, _⟩ := hent j e' k2
    have := hB.ab.inj _ _ _ _ m1 m2 k3
    have e3 := (g3 i (hkey i e k1)).2.2
    have e4 := (g3 j (hkey j e' k2)).2.2
    rw [← e3, ← e4, this]
end Go.CE

/- SxCeJ -/
namespace Go.CE
open Go.RowKit Go.SX

def DJ.noTake : DJ → Bool
  | .done => true
  | .take _ _ => false
  | .one _ t => t.noTake
  | .alt _ t r => t.noTake && r.noTake
  | .join a r => a.noTake && r.noTake
def DJ.picks : DJ → List Nat
  | .one i _ => [i]
  | .alt i _ r => i :: r.picks
  | .join a _ => a.picks
  | _ => []
def DJ.ends : DJ → Array Bool → Array Bool
  | .done, L => L
  | .take i t, L => t.ends (L.setIfInBounds i true)
  | .one i t, L => t.ends (L.setIfInBounds i true)
  | .alt i t _, L => t.ends (L.setIfInBounds i true)
  | .join a r, L => r.ends (a.ends L)
def DJ.len : DJ → Nat
  | .done => 0
  | .take _ t => t.len + 1
  | .one _ t => t.len + 1
  | .alt _ t _ => t.len + 1
  | .join a r => a.len + r.len
def eqL (a b : List Bool) : Bool :=
  match a with
  | [] => (match b with | [] => true | _ => false)
  | x :: r => (match b with | y :: s => (match x, y with | true, true => eqL r s | false, false => eqL r s | _, _ => false) | [] => false)
theorem eqL_eq : ∀ {a b : List Bool}, eqL a b = true → a = b
  | [], [], _ => rfl
  | [], _ :: _, h => by simp [eqL] at h
  | _ :: _, [], h => by simp [eqL] at h
  | x :: r, y :: s, h => by
    cases x <;> cases y <;> simp only [eqL] at h <;> first | (rw [eqL_eq h]) | (cases h)
def DJ.ok (ops : Array Oper) (brk : List Nat) : DJ → Array Bool → Bool → Bool → Array Bool → Bool
  | .done, L, top, _, E => top && eqL L.toList E.toList
  | .take i t, L, top, after, E => top && (Region.free .any ops L i && (Region.ready .any ops L).contains i && ((brk.all fun j => waitsOn ops j i) || brkT ops brk L i (waiters ops i ops.size [])) && t.ok ops brk (L.setIfInBounds i true) true after E)
  | .one i t, L, top, after, E => (!top || Region.ready .any ops L == [i]) && (t.ok ops brk (L.setIfInBounds i true) true after E && (bif memB i brk then t.noTake && after else true))
  | .alt i t r, L, top, after, E => ((!top || Region.ready .any ops L == i :: r.picks) && (t.ok ops brk (L.setIfInBounds i true) true after E && (bif memB i brk then t.noTake && after else true)) && r.ok ops brk L false after E) && Nat.beq (t.len + 1) r.len
  | .join a r, L, top, after, E => a.ok ops brk L top (r.noTake && after) (a.ends L) && r.ok ops brk (a.ends L) true after E

structure DS where
  s : S3
  log : Log

noncomputable def stepF (pr : Pr) (call : Call') (n : Nat) (ops : List Oper) (o : Oper) (s : S3) : Option S3 :=
  ob (guardF ops o.guard s.env) fun b => match b with
    | true => ob (eop pr call o.op s.env s.H s.nx) fun x => ob (putE n s.env o.dst x.1) fun env => some (S3.mk env x.2.1 x.2.2)
    | false => ob (putE n s.env o.dst (.c undef)) fun env => some (S3.mk env s.H s.nx)
/-- the blocks that are read: all (none), or those of a list -/
noncomputable def hq (R : Option (List Nat)) (H0 : Mem) (i : Nat) : Option E := match R with | none => H0.get i | some l => (match memB i l with | true => H0.get i | false => none)
def allB (p : Nat → Bool) : List Nat → Bool
  | [] => true
  | i :: r => match p i with | true => allB p r | false => false
theorem allB_spec {p : Nat → Bool} : ∀ {l : List Nat}, allB p l = true → ∀ i ∈ l, p i = true
  | [], _ => by simp
  | i :: r, h => by
    unfold allB at h
    cases hp : p i with
    | false => rw [hp] at h; cases h
    | true =>
      rw [hp] at h
      intro j hj
      rcases List.mem_cons.1 hj with rfl | hj
      · exact hp
      · exact allB_spec h j hj
noncomputable def keepB (R : Option (List Nat)) (H0 H' : Mem) : Bool := match R with | none => false | some l => allB (fun i => eqE (fun x => x) (H0.get i) (H'.get i)) l
theorem memB_mem {j : Nat} : ∀ {l : List Nat}, memB j l = true → j ∈ l
  | [], h => by simp [memB] at h
  | x :: r, h => by
    unfold memB at h
    cases hx : Nat.beq x j with
    | true => have := Nat.eq_of_beq_eq_true hx; subst this; simp
    | false => rw [hx] at h; exact List.mem_cons_of_mem _ (memB_mem h)
theorem mem_memB {j : Nat} : ∀ {l : List Nat}, j ∈ l → memB j l = true
  | [], h => by cases h
  | x :: r, h => by
    unfold memB
    cases hx : Nat.beq x j with
    | true => rfl
    | false => exact mem_memB ((List.mem_cons.1 h).resolve_left fun e => by rw [e] at hx; simp at hx)

noncomputable def pickF (pr : Pr) (call : Call') (n : Nat) (ops : List Oper) (brk : List Nat) (R : Option (List Nat)) (H0 : Mem) (i : Nat) (d : DS) : Option DS :=
  ob (nth ops i) fun o => ob (stepF pr call n ops o d.s) fun s => gd (memB i brk || keepB R H0 s.H) (some ⟨s, (i, d.s.nx, s.nx - d.s.nx) :: d.log⟩)
noncomputable def takeS (pr : Pr) (n : Nat) (ops : List Oper) (h : Nat → Option E) (o : Oper) (d : DS) : Option DS :=
  ob (guardF ops o.guard d.s.env) fun b => match b with
    | true => ob (qop pr h o.op d.s.env) fun v => ob (putE n d.s.env o.dst v) fun env => some ⟨⟨env, d.s.H, d.s.nx⟩, d.log⟩
    | false => ob (putE n d.s.env o.dst (.c undef)) fun env => some ⟨⟨env, d.s.H, d.s.nx⟩, d.log⟩
noncomputable def drawF (pr : Pr) (call : Call') (n : Nat) (ops : List Oper) (brk : List Nat) (R : Option (List Nat)) (H0 : Mem) (t : DJ) : DS → Option DS :=
  DJ.rec (motive := fun _ => DS → Option DS) (fun d => some d)
    (fun i _ ih d => ob (nth ops i) fun o => ob (takeS pr n ops (hq R H0) o d) fun d' => ih d')
    (fun i _ ih d => ob (pickF pr call n ops brk R H0 i d) fun d' => ih d')
    (fun i _ _ iht ihr d => ob (ob (pickF pr call n ops brk R H0 i d) fun d' => iht d') fun A => ob (ihr d) fun B => gd (sameUp n d.s.nx A.log B.log A.s B.s) (some A))
    (fun _ _ iha ihr d => ob (iha d) fun A => ihr A) t
section
variable {pr : Pr} {call : Call'} {n : Nat} {ops : List Oper} {brk : List Nat} {R : Option (List Nat)} {H0 : Mem} {d : DS}
theorem drawF_take {i : Nat} {t : DJ} : drawF pr call n ops brk R H0 (.take i t) d = ob (nth ops i) fun o => ob (takeS pr n ops (hq R H0) o d) fun d' => drawF pr call n ops brk R H0 t d' := rfl
theorem drawF_one {i : Nat} {t : DJ} : drawF pr call n ops brk R H0 (.one i t) d = ob (pickF pr call n ops brk R H0 i d) fun d' => drawF pr call n ops brk R H0 t d' := rfl
theorem drawF_alt {i : Nat} {t r : DJ} : drawF pr call n ops brk R H0 (.alt i t r) d = ob (ob (pickF pr call n ops brk R H0 i d) fun d' => drawF pr call n ops brk R H0 t d') fun A => ob (drawF pr call n ops brk R H0 r d) fun B => gd (sameUp n d.s.nx A.log B.log A.s B.s) (some A) := rfl
theorem drawF_join {a r : DJ} : drawF pr call n ops brk R H0 (.join a r) d = ob (drawF pr call n ops brk R H0 a d) fun A => drawF pr call n ops brk R H0 r A := rfl
end

section
variable {P : Program} {pr : Pr} {w0 : World} {call : Call'} (hok : ∀ t ti, pr.tab.get t = some ti → mkTI P t = some ti) (hc : CallOk P w0 call) (ho : OrcOk P w0 pr)
  {n : Nat} {ops : Array Oper} {brk : List Nat} {R : Option (List Nat)} {H0 : Mem} {ρ0 : Rho} {nx0 : Nat} {Q : Exit → Act → World → Prop}

/-- what is read stands as it did -/
abbrev Cls (w0 : World) (R : Option (List Nat)) (H0 : Mem) (ρ0 : Rho) (nx0 : Nat) (w : World) : Prop := Ab w0 ρ0 nx0 (hq R H0) w

theorem keepB_spec {H' : Mem} {ρ : Rho} {nx : Nat} {w : World} (h : keepB R H0 H' = true) (hk : ∀ i e, hq R H0 i = some e → i < nx0 ∧ V.lts nx0 e.cells) (hw : Ab w0 ρ nx H'.get w) (hr : ∀ i, i < nx0 → ρ i = ρ0 i) : Cls w0 R H0 ρ0 nx0 w := by
  cases R with
  | none => cases h
  | some l =>
    have hent : ∀ i e, hq (some l) H0 i = some e → ∃ e', H'.get i = some e' ∧ e'.k = e.k ∧ e'.T = e.T ∧ V.rfs ρ e'.cells = V.rfs ρ e.cells := fun i e he => by
      have hlt := (hk i e he).2
      simp only [hq] at he
      cases hm : memB i l with
      | false => rw [hm] at he; cases he
      | true =>
        rw [hm] at he
        have h1 := allB_spec h i (memB_mem hm)
        dsimp only at he
        rw [he] at h1
        cases hb : H'.get i with
        | none => rw [hb] at h1; cases h1
        | some e' =>
          rw [hb] at h1
          simp only [eqE, Bool.and_eq_true] at h1
          exact ⟨e', rfl, (Nat.eq_of_beq_eq_true h1.1.2).symm, (Nat.eq_of_beq_eq_true h1.2).symm, eqVs_sound (m := nx0) (fun _ _ => rfl) h1.1.1 hlt⟩
    refine ⟨hw.ext, hk, fun i e he => ?_, fun i e he => ?_, fun i j e e' h1 h2 h3 => ?_⟩
    · obtain ⟨e', g1, _⟩ := hent i e he
      rw [← hr i (hk i e he).1]; exact hw.new i e' g1
    · obtain ⟨e', g1, g2, g3, g4⟩ := hent i e he
      obtain ⟨c, c1, c2, c3⟩ := hw.ent i e' g1
      have hlen : e'.cells.length = e.cells.length := by
        have := congrArg List.length g4
        rw [rfs_length, rfs_length] at this; exact this
      rw [← hr i (hk i e he).1, ← g2, ← g3, ← hlen]
      refine ⟨c, c1, c2, fun p v hp => ?_⟩
      have e2 := rfs_get (ρ := ρ) hp
      rw [← g4] at e2
      obtain ⟨u, hu, e3⟩ := rfs_get_inv e2
      rw [← V.rf_lt hr (lts_get (hk i e he).2 hp), ← e3]; exact c3 p u hu
    · obtain ⟨x, g1, _⟩ := hent i e h1
      obtain ⟨y, g2, _⟩ := hent j e' h2
      rw [← hr i (hk i e h1).1, ← hr j (hk j e' h2).1] at h3
      exact hw.inj _ _ _ _ g1 g2 h3

/-- a world behind an operation -/
theorem wp_world {o : Oper} {a : Act} {w : World} {next : Act → World → Prop} (h : o.wp P a w next (fun _ _ _ => False)) : ∃ a' w', next a' w' := by
  unfold Oper.wp at h
  cases hr : (execOp a.eval o).run P w with
  | halt hh w' =>
    rw [hr] at h
    cases hh <;> simp [Oper.upon] at h
  | ok x w' =>
    rw [hr] at h
    cases x with
    | value v => exact ⟨_, _, h⟩
    | skip => exact ⟨_, _, h⟩
    | «defer» d => exact ⟨_, _, h⟩
    | enter f args =>
      obtain ⟨e, w'', fr, h1, _⟩ := h []
      cases e with
      | returned v => exact ⟨_, _, h1⟩
      | panicked c => exact h1.elim
      | outgrown => obtain ⟨a', w', h2⟩ := h1; exact h2.elim
    | row rw' args =>
      obtain ⟨v, w'', h1, _⟩ := h default []
      exact ⟨_, _, h1⟩
    | _ => simp [Oper.upon] at h

include hok hc ho in
theorem step_ex {o : Oper} {s s' : S3} {ρ : Rho} {a : Act} {w : World} (h : stepF pr call n ops.toList o s = some s') (ht : At w0 n ρ s a w) : ∃ ρ' a' w', (∀ i, i < s.nx → ρ' i = ρ i) ∧ s.nx ≤ s'.nx ∧ At w0 n ρ' s' a' w' := by
  have := op_step hok hc ho (Q := fun _ _ _ => False) (next := fun a' w' => ∃ ρ', (∀ i, i < s.nx → ρ' i = ρ i) ∧ s.nx ≤ s'.nx ∧ At w0 n ρ' s' a' w') ht h fun ρ' a' w' g1 g2 g3 => ⟨ρ', g1, g2, g3⟩
  split at this
  · obtain ⟨a', w', ρ', g⟩ := wp_world this
    exact ⟨ρ', a', w', g⟩
  · obtain ⟨ρ', g⟩ := this
    exact ⟨ρ', _, _, g⟩

include hok in
theorem take_at {o : Oper} {d d' : DS} {ρ : Rho} {a : Act} {w w1 : World} (h : takeS pr n ops.toList (hq R H0) o d = some d') (ht : At w0 n ρ d.s a w) (hC : Cls w0 R H0 ρ0 nx0 w1) (hr : ∀ i, i < nx0 → ρ i = ρ0 i) (hn : nx0 ≤ d.s.nx) :
    d'.s.H = d.s.H ∧ d'.s.nx = d.s.nx ∧ d'.log = d.log ∧ ∃ v : Value, YieldsIf P ops (fun w => Cls w0 R H0 ρ0 nx0 w) o v a ∧ At w0 n ρ d'.s (a.put o.dst v) w := by
  unfold takeS at h
  replace h := ob_some h; obtain ⟨b, hb, h⟩ := h
  have hwt := guardF_spec ht.sat hb
  cases b with
  | true =>
    replace h := ob_some h; obtain ⟨v, h1, h⟩ := h
    replace h := ob_some h; obtain ⟨env, h2, h⟩ := h
    cases h
    have hv := (qop_sound hok ht.sat (hC.lift hr hn) h1).1
    refine ⟨rfl, rfl, rfl, v.rf ρ, .inl ⟨hwt, fun w' hw' => (qop_sound hok ht.sat (Ab.lift hw' hr hn) h1).2⟩, ht.sat.put h2 (fun _ _ => rfl) (Nat.le_refl _) hv rfl, ht.ab⟩
  | false =>
    replace h := ob_some h; obtain ⟨env, h2, h⟩ := h
    cases h
    exact ⟨rfl, rfl, rfl, undef, .inr ⟨hwt, rfl⟩, ht.sat.put h2 (fun _ _ => rfl) (Nat.le_refl _) (v := .c undef) trivial rfl, ht.ab⟩

include hok hc ho in
/-- there is a world in which the state stands so behind an order -/
theorem drawF_ex (hk : ∀ i e, hq R H0 i = some e → i < nx0 ∧ V.lts nx0 e.cells) {w1 : World} (hC : Cls w0 R H0 ρ0 nx0 w1) : ∀ {t : DJ} {d d' : DS} {ρ : Rho} {a : Act} {w : World}, drawF pr call n ops.toList brk R H0 t d = some d' → At w0 n ρ d.s a w → (∀ i, i < nx0 → ρ i = ρ0 i) → nx0 ≤ d.s.nx →
    d.s.nx ≤ d'.s.nx ∧ ∃ ρ' a' w', (∀ i, i < d.s.nx → ρ' i = ρ i) ∧ At w0 n ρ' d'.s a' w'
  | .done, d, d', ρ, a, w, h, ht, hr, hn => by cases h; exact ⟨Nat.le_refl _, ρ, a, w, fun _ _ => rfl, ht⟩
  | .take i t, d, d', ρ, a, w, h, ht, hr, hn => by
    rw [drawF_take] at h
    replace h := ob_some h; obtain ⟨o, _, h⟩ := h
    replace h := ob_some h; obtain ⟨d1, h1, h⟩ := h
    obtain ⟨e1, e2, e3, v, _, g⟩ := take_at hok h1 ht hC hr hn
    have := drawF_ex hk hC h g hr (by rw [e2]; exact hn)
    rw [e2] at this; exact this
  | .one i t, d, d', ρ, a, w, h, ht, hr, hn => by
    rw [drawF_one] at h
    replace h := ob_some h; obtain ⟨d1, h1, h⟩ := h
    unfold pickF at h1
    replace h1 := ob_some h1; obtain ⟨o, _, h1⟩ := h1
    replace h1 := ob_some h1; obtain ⟨s1, h2, h1⟩ := h1
    replace h1 := gd_some h1; obtain ⟨_, h1⟩ := h1
    cases h1
    obtain ⟨ρ', a', w', g1, g2, g3⟩ := step_ex hok hc ho h2 ht
    obtain ⟨k1, ρ'', a'', w'', k2, k3⟩ := drawF_ex hk hC h g3 (fun i hi => (g1 i (Nat.lt_of_lt_of_le hi hn)).trans (hr i hi)) (Nat.le_trans hn g2)
    exact ⟨Nat.le_trans g2 k1, ρ'', a'', w'', fun i hi => (k2 i (Nat.lt_of_lt_of_le hi g2)).trans (g1 i hi), k3⟩
  | .alt i t r, d, d', ρ, a, w, h, ht, hr, hn => by
    rw [drawF_alt] at h
    replace h := ob_some h; obtain ⟨A, hA, h⟩ := h
    replace h := ob_some h; obtain ⟨B, hB, h⟩ := h
    replace h := gd_some h; obtain ⟨_, h⟩ := h
    cases h
    replace hA := ob_some hA; obtain ⟨d1, h1, h⟩ := hA
    unfold pickF at h1
    replace h1 := ob_some h1; obtain ⟨o, _, h1⟩ := h1
    replace h1 := ob_some h1; obtain ⟨s1, h2, h1⟩ := h1
    replace h1 := gd_some h1; obtain ⟨_, h1⟩ := h1
    cases h1
    obtain ⟨ρ', a', w', g1, g2, g3⟩ := step_ex hok hc ho h2 ht
    obtain ⟨k1, ρ'', a'', w'', k2, k3⟩ := drawF_ex hk hC h g3 (fun i hi => (g1 i (Nat.lt_of_lt_of_le hi hn)).trans (hr i hi)) (Nat.le_trans hn g2)
    exact ⟨Nat.le_trans g2 k1, ρ'', a'', w'', fun i hi => (k2 i (Nat.lt_of_lt_of_le hi g2)).trans (g1 i hi), k3⟩
  | .join x r, d, d', ρ, a, w, h, ht, hr, hn => by
    rw [drawF_join] at h
    replace h := ob_some h; obtain ⟨A, hA, h⟩ := h
    obtain ⟨g1, ρ', a', w', g2, g3⟩ := drawF_ex hk hC hA ht hr hn
    obtain ⟨k1, ρ'', a'', w'', k2, k3⟩ := drawF_ex hk hC h g3 (fun i hi => (g2 i (Nat.lt_of_lt_of_le hi hn)).trans (hr i hi)) (Nat.le_trans hn g1)
    exact ⟨Nat.le_trans g1 k1, ρ'', a'', w'', fun i hi => (k2 i (Nat.lt_of_lt_of_le hi g1)).trans (g2 i hi), k3⟩

/-- what is shown of a tree: from its top, or of each that it picks -/
def Shown (P : Program) (w0 : World) (ops : Array Oper) (brk : List Nat) (R : Option (List Nat)) (H0 : Mem) (ρ0 : Rho) (nx0 : Nat) (Q : Exit → Act → World → Prop) (t : DJ) (listed : Array Bool) (fuel : Nat) (a : Act) (w : World) : Bool → Prop
  | true => wpAnyE P .any ops Q (fun w => Cls w0 R H0 ρ0 nx0 w) (fun i => memB i brk) fuel listed a w
  | false => ∃ m, fuel = m + 1 ∧ ∀ i ∈ t.picks, wpOp P ops Q i (fun a' w' => (memB i brk = true ∨ Cls w0 R H0 ρ0 nx0 w') ∧ wpAnyE P .any ops Q (fun w => Cls w0 R H0 ρ0 nx0 w) (fun i => memB i brk) m (listed.setIfInBounds i true) a' w') a w
theorem Shown.top {t : DJ} {listed : Array Bool} {fuel : Nat} {a : Act} {w : World} {top : Bool} (hp : top = true → Region.ready .any ops listed = t.picks ∧ t.picks ≠ [])
    (h : Shown P w0 ops brk R H0 ρ0 nx0 Q t listed fuel a w false) : Shown P w0 ops brk R H0 ρ0 nx0 Q t listed fuel a w top := by
  cases top with
  | false => exact h
  | true =>
    obtain ⟨h1, h2⟩ := hp rfl
    obtain ⟨m, rfl, h⟩ := h
    refine ⟨fun h0 => absurd (h1.symm.trans h0) h2, ?_⟩
    rw [h1]
    exact h

theorem waits_edge {j x : Nat} {oj : Oper} (hoj : ops[j]? = some oj) (h : waitsOn ops j x = true) : ∃ e ∈ oj.after, Region.binds .any e = true ∧ e.on = x := by
  unfold waitsOn at h
  rw [hoj] at h
  obtain ⟨e, he, hb'⟩ := Array.any_eq_true'.1 h
  simp only [Bool.and_eq_true, beq_iff_eq] at hb'
  exact ⟨e, he, hb'.1, hb'.2⟩
theorem brk_waits {i : Nat} {listed : Array Bool} (hb : ((brk.all fun j => waitsOn ops j i) || brkT ops brk listed i (waiters ops i ops.size [])) = true) :
    ∃ Z : Nat → Bool, (∀ j oj, ops[j]? = some oj → memB j brk = true → (∃ e ∈ oj.after, Region.binds .any e = true ∧ e.on = i) ∨ Z j = true) ∧ (∀ j oj, ops[j]? = some oj → Z j = true → ∃ e ∈ oj.after, Region.binds .any e = true ∧ (e.on = i ∨ Z e.on = true)) ∧ (∀ j, Z j = true → listed.getD j true = false) := by
  rcases (by simpa [Bool.or_eq_true] using hb : (∀ j ∈ brk, waitsOn ops j i = true) ∨ brkT ops brk listed i (waiters ops i ops.size []) = true) with hb | hb
  · exact ⟨fun _ => false, fun j oj hoj hj => .inl (waits_edge hoj (hb j (memB_mem hj))), fun j oj _ h => (by cases h), fun j h => (by cases h)⟩
  · obtain ⟨L, hL⟩ : ∃ L, L = waiters ops i ops.size [] := ⟨_, rfl⟩
    rw [← hL] at hb
    unfold brkT at hb
    simp only [Bool.and_eq_true, List.all_eq_true, Bool.not_eq_true'] at hb
    obtain ⟨hb1, hb2⟩ := hb
    refine ⟨fun j => memB j L, fun j oj hoj hj => .inr (hb1 j (memB_mem hj)), fun j oj hoj hj => ?_, fun j hj => (hb2 j (memB_mem hj)).1⟩
    obtain ⟨x, hx, hw'⟩ := List.any_eq_true.1 (hb2 j (memB_mem hj)).2
    obtain ⟨e, h1, h2, h3⟩ := waits_edge hoj hw'
    refine ⟨e, h1, h2, ?_⟩
    rcases List.mem_cons.1 hx with hx | hx
    · exact .inl (h3.trans hx)
    · exact .inr (by rw [h3]; exact mem_memB hx)

include hok hc ho in
/-- one that is picked, by what comes behind it -/
theorem pick_sound (hk : ∀ i e, hq R H0 i = some e → i < nx0 ∧ V.lts nx0 e.cells) {i : Nat} {t : DJ} {after : Bool} {d d' : DS} {ρ : Rho} {a : Act} {w : World} {listed : Array Bool} {fuel : Nat}
    (h : pickF pr call n ops.toList brk R H0 i d = some d') (hnt : (bif memB i brk then t.noTake && after else true) = true) (hC : (t.noTake && after) = true ∨ Cls w0 R H0 ρ0 nx0 w) (ht : At w0 n ρ d.s a w) (hr : ∀ i, i < nx0 → ρ i = ρ0 i) (hn : nx0 ≤ d.s.nx)
    (ih : ∀ {ρ' : Rho} {a' : Act} {w' : World}, ((t.noTake && after) = true ∨ Cls w0 R H0 ρ0 nx0 w') → At w0 n ρ' d'.s a' w' → (∀ i, i < d.s.nx → ρ' i = ρ i) → d.s.nx ≤ d'.s.nx →
      wpAnyE P .any ops Q (fun w => Cls w0 R H0 ρ0 nx0 w) (fun i => memB i brk) fuel (listed.setIfInBounds i true) a' w') :
    wpOp P ops Q i (fun a' w' => (memB i brk = true ∨ Cls w0 R H0 ρ0 nx0 w') ∧ wpAnyE P .any ops Q (fun w => Cls w0 R H0 ρ0 nx0 w) (fun i => memB i brk) fuel (listed.setIfInBounds i true) a' w') a w := by
  unfold pickF at h
  replace h := ob_some h; obtain ⟨o, hoi, h⟩ := h
  replace h := ob_some h; obtain ⟨s1, h1, h⟩ := h
  replace h := gd_some h; obtain ⟨hg, h⟩ := h
  cases h
  rw [nth_eq, Array.getElem?_toList] at hoi
  unfold wpOp
  rw [hoi]
  dsimp only
  have fin : ∀ ρ' a' w', (∀ i, i < d.s.nx → ρ' i = ρ i) → d.s.nx ≤ s1.nx → At w0 n ρ' s1 a' w' → (memB i brk = true ∨ Cls w0 R H0 ρ0 nx0 w') ∧ wpAnyE P .any ops Q (fun w => Cls w0 R H0 ρ0 nx0 w) (fun i => memB i brk) fuel (listed.setIfInBounds i true) a' w' := by
    intro ρ' a' w' g1 g2 g3
    have hr' : ∀ j, j < nx0 → ρ' j = ρ0 j := fun j hj => (g1 j (Nat.lt_of_lt_of_le hj hn)).trans (hr j hj)
    cases hb : memB i brk with
    | true =>
      rw [hb, cond_true] at hnt
      exact ⟨.inl rfl, ih (.inl hnt) g3 g1 g2⟩
    | false =>
      rw [hb, Bool.false_or] at hg
      have hcl := keepB_spec hg hk g3.ab hr'
      exact ⟨.inr hcl, ih (.inr hcl) g3 g1 g2⟩
  have := op_step hok hc ho (Q := Q) (next := fun a' w' => (memB i brk = true ∨ Cls w0 R H0 ρ0 nx0 w') ∧ wpAnyE P .any ops Q (fun w => Cls w0 R H0 ρ0 nx0 w) (fun i => memB i brk) fuel (listed.setIfInBounds i true) a' w') ht h1 fin
  split at this
  · rename_i hw; rw [if_pos hw]; exact .inl this
  · rename_i hw; rw [if_neg hw]; exact this

include hok hc ho in
theorem drawF_sound (hsel : Region.noSelect ops = true) (hQ : ∀ c a a' w, Q (.panic c) a w → Q (.panic c) a' w) (hk : ∀ i e, hq R H0 i = some e → i < nx0 ∧ V.lts nx0 e.cells) {w1 : World} (hC1 : Cls w0 R H0 ρ0 nx0 w1) :
    ∀ {t : DJ} {d d' : DS} {ρ : Rho} {a : Act} {w : World} {listed E : Array Bool} {m : Nat} {top after : Bool}, drawF pr call n ops.toList brk R H0 t d = some d' → t.ok ops brk listed top after E = true →
    ((t.noTake && after) = true ∨ Cls w0 R H0 ρ0 nx0 w) → At w0 n ρ d.s a w → (∀ i, i < nx0 → ρ i = ρ0 i) → nx0 ≤ d.s.nx →
    (∀ ρ' a' w', (∀ i, i < d.s.nx → ρ' i = ρ i) → d.s.nx ≤ d'.s.nx → At w0 n ρ' d'.s a' w' → (after = true ∨ Cls w0 R H0 ρ0 nx0 w') → wpAnyE P .any ops Q (fun w => Cls w0 R H0 ρ0 nx0 w) (fun i => memB i brk) m E a' w') →
    Shown P w0 ops brk R H0 ρ0 nx0 Q t listed (t.len + m) a w top
  | .done, d, d', ρ, a, w, listed, E, m, top, after, h, hok', hC, ht, hr, hn, fin => by
    cases h
    simp only [DJ.ok, Bool.and_eq_true] at hok'
    obtain ⟨rfl, he⟩ := hok'
    have he := eqL_eq he
    have e : listed = E := by cases listed; cases E; simp at he; rw [he]
    subst e
    have := fin ρ a w (fun _ _ => rfl) (Nat.le_refl _) ht (by simpa [DJ.noTake] using hC)
    simpa [Shown, DJ.len] using this
  | .take i t, d, d', ρ, a, w, listed, E, m, top, after, h, hok', hC, ht, hr, hn, fin => by
    have hC := hC.resolve_left (by simp [DJ.noTake])
    rw [drawF_take] at h
    replace h := ob_some h; obtain ⟨o, hoi, h⟩ := h
    replace h := ob_some h; obtain ⟨d1, h1, h⟩ := h
    rw [nth_eq, Array.getElem?_toList] at hoi
    unfold DJ.ok at hok'
    simp only [Bool.and_eq_true] at hok'
    obtain ⟨rfl, ⟨⟨hf, hrd⟩, hb⟩, hok'⟩ := hok'
    obtain ⟨Z, hbrk, hZ, hZl⟩ := brk_waits (by simpa [Bool.or_eq_true] using hb)
    obtain ⟨e1, e2, e3, v, hy, g⟩ := take_at hok h1 ht hC hr hn
    have := drawF_sound hsel hQ hk hC1 (top := true) (m := m) h hok' (.inr hC) g hr (by rw [e2]; exact hn) (by rw [e2]; exact fin)
    have h2 := wpAnyE_first (P := P) (md := .any) (Q := Q) (C := fun w => Cls w0 R H0 ρ0 nx0 w) (brk := fun i => memB i brk) hoi (Region.noSelect_spec hsel) (fun c a w hq => hQ c _ _ w hq) Z hbrk hZ (t.len + m) listed a w hZl (Region.free_spec hoi hf) (by simpa using hrd) hy hC this
    show wpAnyE P .any ops Q _ _ (t.len + 1 + m) listed a w
    rw [show t.len + 1 + m = (t.len + m) + 1 by omega]
    exact h2
  | .one i t, d, d', ρ, a, w, listed, E, m, top, after, h, hok', hC, ht, hr, hn, fin => by
    rw [drawF_one] at h
    replace h := ob_some h; obtain ⟨d1, h1, h⟩ := h
    unfold DJ.ok at hok'
    simp only [Bool.and_eq_true, Bool.or_eq_true, Bool.not_eq_true', beq_iff_eq] at hok'
    obtain ⟨hrd, hok1, hnt⟩ := hok'
    refine Shown.top (fun htop => ⟨hrd.resolve_left (by simp [htop]), by simp [DJ.picks]⟩) ⟨t.len + m, by simp only [DJ.len]; omega, fun i' hi' => ?_⟩
    obtain rfl : i' = i := by simpa [DJ.picks] using hi'
    refine pick_sound hok hc ho hk (t := t) (after := after) h1 hnt (by simpa only [DJ.noTake] using hC) ht hr hn fun {ρ' a' w'} g1 g2 g3 g4 => ?_
    exact drawF_sound hsel hQ hk hC1 (top := true) h hok1 g1 g2 (fun j hj => (g3 j (Nat.lt_of_lt_of_le hj hn)).trans (hr j hj)) (Nat.le_trans hn g4) fun ρ'' a'' w'' k1 k2 k3 k4 =>
      fin ρ'' a'' w'' (fun j hj => (k1 j (Nat.lt_of_lt_of_le hj g4)).trans (g3 j hj)) (Nat.le_trans g4 k2) k3 k4
  | .alt i t r, d, d', ρ, a, w, listed, E, m, top, after, h, hok', hC, ht, hr, hn, fin => by
    have hex := drawF_ex hok hc ho (brk := brk) hk hC1 h ht hr hn
    rw [drawF_alt] at h
    replace h := ob_some h; obtain ⟨A, hA, h⟩ := h
    replace h := ob_some h; obtain ⟨B, hB, h⟩ := h
    replace h := gd_some h; obtain ⟨hsame, h⟩ := h
    cases h
    have hexA : ∃ ρ a w, At w0 n ρ d'.s a w := by obtain ⟨_, ρ', a', w', _, g⟩ := hex; exact ⟨ρ', a', w', g⟩
    replace hA := ob_some hA; obtain ⟨d1, h1, hA⟩ := hA
    unfold DJ.ok at hok'
    simp only [Bool.and_eq_true, Bool.or_eq_true, Bool.not_eq_true', beq_iff_eq] at hok'
    obtain ⟨⟨⟨hrd, hok1, hnt⟩, hok2⟩, hlen⟩ := hok'
    have hlen := Nat.eq_of_beq_eq_true hlen
    have hC1' : (t.noTake && after) = true ∨ Cls w0 R H0 ρ0 nx0 w := hC.elim (fun g => by simp only [DJ.noTake, Bool.and_eq_true] at g ⊢; exact .inl ⟨g.1.1, g.2⟩) .inr
    have hC2' : (r.noTake && after) = true ∨ Cls w0 R H0 ρ0 nx0 w := hC.elim (fun g => by simp only [DJ.noTake, Bool.and_eq_true] at g ⊢; exact .inl ⟨g.1.2, g.2⟩) .inr
    refine Shown.top (fun htop => ⟨hrd.resolve_left (by simp [htop]), by simp [DJ.picks]⟩) ⟨t.len + m, by simp only [DJ.len]; omega, fun i' hi' => ?_⟩
    simp only [DJ.picks, List.mem_cons] at hi'
    rcases hi' with rfl | hi'
    · refine pick_sound hok hc ho hk (t := t) (after := after) h1 hnt hC1' ht hr hn fun {ρ' a' w'} g1 g2 g3 g4 => ?_
      exact drawF_sound hsel hQ hk hC1 (top := true) hA hok1 g1 g2 (fun j hj => (g3 j (Nat.lt_of_lt_of_le hj hn)).trans (hr j hj)) (Nat.le_trans hn g4) fun ρ'' a'' w'' k1 k2 k3 k4 =>
        fin ρ'' a'' w'' (fun j hj => (k1 j (Nat.lt_of_lt_of_le hj g4)).trans (g3 j hj)) (Nat.le_trans g4 k2) k3 k4
    · have hsh := drawF_sound hsel hQ hk hC1 (top := false) (m := m) hB hok2 hC2' ht hr hn fun ρ' a' w' g1 g2 g3 g4 => by
        obtain ⟨ρ'', k1, k2⟩ := sameUp_sound hsame hexA g3 g2
        exact fin ρ'' a' w' (fun j hj => (k1 j hj).trans (g1 j hj)) hex.1 k2 g4
      obtain ⟨m', e, hh⟩ := hsh
      obtain rfl : m' = t.len + m := by omega
      exact hh i' hi'
  | .join x r, d, d', ρ, a, w, listed, E, m, top, after, h, hok', hC, ht, hr, hn, fin => by
    rw [drawF_join] at h
    replace h := ob_some h; obtain ⟨A, hA, h⟩ := h
    unfold DJ.ok at hok'
    simp only [Bool.and_eq_true] at hok'
    obtain ⟨hok1, hok2⟩ := hok'
    have hC' : (x.noTake && (r.noTake && after)) = true ∨ Cls w0 R H0 ρ0 nx0 w := hC.imp (fun g => by simpa [DJ.noTake, Bool.and_assoc] using g) id
    have hsh := drawF_sound hsel hQ hk hC1 (m := r.len + m) hA hok1 hC' ht hr hn fun ρ' a' w' g1 g2 g3 g4 => by
      have := drawF_sound hsel hQ hk hC1 (top := true) (m := m) h hok2 g4 g3 (fun j hj => (g1 j (Nat.lt_of_lt_of_le hj hn)).trans (hr j hj)) (Nat.le_trans hn g2) fun ρ'' a'' w'' k1 k2 k3 k4 =>
        fin ρ'' a'' w'' (fun j hj => (k1 j (Nat.lt_of_lt_of_le hj g2)).trans (g1 j hj)) (Nat.le_trans g2 k2) k3 k4
      exact this
    have e : (DJ.join x r).len + m = x.len + (r.len + m) := by simp only [DJ.len]; omega
    rw [e]
    cases top with
    | true => exact hsh
    | false => exact hsh
end
end Go.CE

/- SxCeK -/
namespace Go.CE
open Go.RowKit Go.SX

inductive Ex where
  | normal
  | exit (id : Nat)
  | ret
def Ex.to : Ex → Exit
  | .normal => .normal
  | .exit id => .exit id
  | .ret => .ret

/-- which blocks are read by those that are taken ahead -/
noncomputable def rdOf (o : Op) (env : Env) (R : List Nat) : List Nat :=
  match o with
  | .load _ x => (match evO env x with | some (.p i _) => i :: R | _ => R)
  | .slice _ x _ _ _ => (match evO env x with | some (.s i _ _ _) => i :: R | _ => R)
  | _ => R
noncomputable def preR (pr : Pr) (n : Nat) (ops : List Oper) : DJ → S3 → List Nat → List Nat
  | .take i t, s, R => (match nth ops i with
    | some o => (match takeS pr n ops s.H.get o ⟨s, []⟩ with
      | some d => preR pr n ops t d.s (rdOf o.op s.env R)
      | none => R)
    | none => R)
  | .one i t, s, R => (match nth ops i with
    | some o => (match takeS pr n ops s.H.get o ⟨s, []⟩ with
      | some d => preR pr n ops t d.s R
      | none => R)
    | none => R)
  | _, _, R => R

abbrev Draws := List (Nat × List Nat × Bool × DJ)
def findD (id : Nat) : Draws → Option (List Nat × Bool × DJ)
  | [] => none
  | (j, x) :: r => match Nat.beq j id with | true => some x | false => findD id r
def rep (n : Nat) : Array Bool := Array.replicate n false
def okD (ops : Array Oper) (brk : List Nat) (t : DJ) : Bool :=
  t.ok ops brk (rep ops.size) true true (t.ends (rep ops.size)) && (Region.ready .any ops (t.ends (rep ops.size))).isEmpty && Region.noSelect ops && Nat.ble t.len ops.size
noncomputable def drwF (pr : Pr) (call : Call') (n : Nat) (draws : Draws) (id : Nat) (ops : Array Oper) (s : S3) : Option S3 :=
  ob (findD id draws) fun x => ob (drawF pr call n ops.toList x.1 (match x.2.1 with | true => some (preR pr n ops.toList x.2.2 s []) | false => none) s.H x.2.2 ⟨s, []⟩) fun d => some d.s
def okC (draws : Draws) : Code → Bool
  | .region id ops true => (match findD id draws with | some x => okD ops x.1 x.2.2 | none => true)
  | .seq a b => okC draws a && okC draws b
  | .cond _ a b => okC draws a && okC draws b
  | .block _ b => okC draws b
  | .loop b => okC draws b
  | _ => true

/-- then, if it ends as it should -/
noncomputable def thenF (r : Option (Ex × S3)) (k : S3 → Option (Ex × S3)) : Option (Ex × S3) :=
  Option.rec (motive := fun _ => Option (Ex × S3)) none (fun p => Ex.rec (motive := fun _ => Option (Ex × S3)) (k p.2) (fun id => some (.exit id, p.2)) (some (.ret, p.2)) p.1) r
noncomputable def blockF (id : Nat) (r : Option (Ex × S3)) : Option (Ex × S3) :=
  Option.rec (motive := fun _ => Option (Ex × S3)) none (fun p => Ex.rec (motive := fun _ => Option (Ex × S3)) (some (.normal, p.2)) (fun j => bc (Nat.beq j id) (some (.normal, p.2)) (some (.exit j, p.2))) (some (.ret, p.2)) p.1) r
noncomputable def loopN (f : S3 → Option (Ex × S3)) (m : Nat) : S3 → Option (Ex × S3) :=
  Nat.rec (motive := fun _ => S3 → Option (Ex × S3)) (fun _ => none) (fun _ ih s => thenF (f s) ih) m
noncomputable def evC (pr : Pr) (call : Call') (n : Nat) (draws : Draws) (keep : List Nat) (c : Code) : S3 → Option (Ex × S3) :=
  Code.rec (motive := fun _ => S3 → Option (Ex × S3)) (fun s => some (.normal, s))
    (fun id ops draw s => Bool.rec (motive := fun _ => Option (Ex × S3)) (ob (regF pr call n ops.toList ops.toList s) fun s' => some (.normal, s')) (ob (drwF pr call n draws id ops s) fun s' => some (.normal, s')) draw)
    (fun _ _ iha ihb s => thenF (iha s) ihb)
    (fun c _ _ iha ihb s => ob (evO s.env c) fun v => match v with
      | .c (.bool true) => iha s
      | .c (.bool false) => ihb s
      | _ => none)
    (fun id _ ih s => blockF id (ih s))
    (fun _ ih s => loopN ih 1000000 s)
    (fun _ _ _ _ _ _ _ => none)
    (fun id s => some (.exit id, s))
    (fun _ _ _ => none) (fun _ _ => none) (fun _ _ => none)
    (fun s => some (.ret, s))
    (fun _ _ => none) c

section
variable {P : Program} {pr : Pr} {w0 : World} {call : Call'} (hok : ∀ t ti, pr.tab.get t = some ti → mkTI P t = some ti) (hc : CallOk P w0 call) (ho : OrcOk P w0 pr) (hm : P.follows .mixedOrders = true)
  {n : Nat} {draws : Draws} {keep : List Nat}

/-- behind a piece of code -/
def Post (w0 : World) (n : Nat) (ρ : Rho) (s : S3) (ex : Ex) (s' : S3) (e : Exit) (a' : Act) (w' : World) : Prop := e = ex.to ∧ ∃ ρ', (∀ i, i < s.nx → ρ' i = ρ i) ∧ s.nx ≤ s'.nx ∧ At w0 n ρ' s' a' w'
theorem Post.trans {ρ ρ1 : Rho} {s s1 s2 : S3} {ex : Ex} {e : Exit} {a : Act} {w : World} (h : Post w0 n ρ1 s1 ex s2 e a w) (hr : ∀ i, i < s.nx → ρ1 i = ρ i) (hn : s.nx ≤ s1.nx) : Post w0 n ρ s ex s2 e a w := by
  obtain ⟨h1, ρ', h2, h3, h4⟩ := h
  exact ⟨h1, ρ', fun i hi => (h2 i (Nat.lt_of_lt_of_le hi hn)).trans (hr i hi), Nat.le_trans hn h3, h4⟩

include hok hc ho hm in
theorem drwF_sound {id : Nat} {ops : Array Oper} {s s' : S3} {ρ : Rho} {a : Act} {w : World} (h : drwF pr call n draws id ops s = some s') (hd : okC draws (.region id ops true) = true) (ht : At w0 n ρ s a w) :
    (Code.region id ops true).wp P (Post w0 n ρ s .normal s') a w := by
  unfold drwF at h
  replace h := ob_some h; obtain ⟨⟨brk, md, t⟩, h1, h⟩ := h
  replace h := ob_some h; obtain ⟨d, h2, h⟩ := h
  cases h
  simp only [okC, h1] at hd
  unfold okD at hd
  simp only [Bool.and_eq_true, List.isEmpty_iff] at hd
  obtain ⟨⟨⟨hok1, hready⟩, hsel⟩, hlen⟩ := hd
  have hlen := Nat.le_of_ble_eq_true hlen
  obtain ⟨R, hR⟩ : ∃ R, R = (match md with | true => some (preR pr n ops.toList t s []) | false => none) := ⟨_, rfl⟩
  dsimp only at h2
  rw [← hR] at h2
  have hsub : ∀ i e, hq R s.H i = some e → s.H.get i = some e := fun i e he => by
    cases R with
    | none => exact he
    | some l =>
      simp only [hq] at he
      cases hb : memB i l with
      | true => rw [hb] at he; exact he
      | false => rw [hb] at he; cases he
  have hw := ht.ab.drew
  have hC : Cls w0 R s.H ρ s.nx w.drew := hw.sub hsub
  refine wp_region_any hm (wpAny_of_E (C := fun w => Cls w0 R s.H ρ s.nx w) (brk := fun i => memB i brk) _ _ _ _ ?_)
  have hsh := drawF_sound hok hc ho (Q := Post w0 n ρ s .normal d.s) (m := ops.size - t.len) hsel (fun c a a' w hq => by cases hq.1) (fun i e he => ht.ab.key i e (hsub i e he)) hC h2 hok1 (.inr hC) ⟨ht.sat, hw⟩ (fun _ _ => rfl) (Nat.le_refl _)
    (fun ρ' a' w' g1 g2 g3 _ => by
      have hQ : Post w0 n ρ s .normal d.s .normal a' w' := ⟨rfl, ρ', g1, g2, g3⟩
      cases hf : ops.size - t.len with
      | zero => exact ⟨hready, hQ⟩
      | succ f => exact ⟨fun _ => hQ, by rw [hready]; simp⟩)
  have e : t.len + (ops.size - t.len) = ops.size := by omega
  rw [e] at hsh
  exact hsh

include hok hc ho hm in
theorem evC_sound : ∀ {c : Code} {s s' : S3} {ex : Ex} {ρ : Rho} {a : Act} {w : World}, evC pr call n draws keep c s = some (ex, s') → okC draws c = true → At w0 n ρ s a w → c.wp P (Post w0 n ρ s ex s') a w := by
  intro c
  induction c with
  | skip =>
    intro s s' ex ρ a w h _ ht
    cases h
    exact wp_skip ⟨rfl, ρ, fun _ _ => rfl, Nat.le_refl _, ht⟩
  | region id ops draw =>
    intro s s' ex ρ a w h hd ht
    cases draw with
    | true =>
      replace h : (ob (drwF pr call n draws id ops s) fun s' => some (Ex.normal, s')) = some (ex, s') := h
      replace h := ob_some h; obtain ⟨s1, h1, h⟩ := h
      cases h
      exact drwF_sound hok hc ho hm h1 hd ht
    | false =>
      replace h : (ob (regF pr call n ops.toList ops.toList s) fun s' => some (Ex.normal, s')) = some (ex, s') := h
      replace h := ob_some h; obtain ⟨s1, h1, h⟩ := h
      cases h
      exact wp_region_list (regF_sound hok hc ho h1 ht fun ρ' a' w' g1 g2 g3 => ⟨rfl, ρ', g1, g2, g3⟩)
  | seq x y ihx ihy =>
    intro s s' ex ρ a w h hd ht
    simp only [okC, Bool.and_eq_true] at hd
    replace h : thenF (evC pr call n draws keep x s) (evC pr call n draws keep y) = some (ex, s') := h
    cases hx : evC pr call n draws keep x s with
    | none => rw [hx] at h; cases h
    | some r =>
      obtain ⟨e1, s1⟩ := r
      rw [hx] at h
      refine wp_seq (wp_mono (ihx hx hd.1 ht) ?_)
      rintro e a' w' ⟨rfl, ρ', h2, h3, h4⟩
      cases e1 with
      | normal =>
        simp only [Ex.to, Exit.then]
        exact wp_mono (ihy h hd.2 h4) fun e a w hp => hp.trans h2 h3
      | exit id => cases h; exact ⟨rfl, ρ', h2, h3, h4⟩
      | ret => cases h; exact ⟨rfl, ρ', h2, h3, h4⟩
  | cond c x y ihx ihy =>
    intro s s' ex ρ a w h hd ht
    simp only [okC, Bool.and_eq_true] at hd
    replace h : (ob (evO s.env c) fun v => match v with
      | .c (.bool true) => evC pr call n draws keep x s
      | .c (.bool false) => evC pr call n draws keep y s
      | _ => none) = some (ex, s') := h
    replace h := ob_some h; obtain ⟨v, h1, h⟩ := h
    obtain ⟨h2, _⟩ := evO_spec ht.sat h1
    match v, h, h2 with
    | .c (.bool true), h, h2 => exact wp_cond_true h2 (ihx h hd.1 ht)
    | .c (.bool false), h, h2 => exact wp_cond_false h2 (ihy h hd.2 ht)
  | block id b ih =>
    intro s s' ex ρ a w h hd ht
    simp only [okC] at hd
    replace h : blockF id (evC pr call n draws keep b s) = some (ex, s') := h
    cases hb : evC pr call n draws keep b s with
    | none => rw [hb] at h; cases h
    | some r =>
      obtain ⟨e1, s1⟩ := r
      rw [hb] at h
      refine wp_block (wp_mono (ih hb hd ht) ?_)
      rintro e a' w' ⟨rfl, ρ', h2, h3, h4⟩
      cases e1 with
      | normal => cases h; exact ⟨rfl, ρ', h2, h3, h4⟩
      | ret => cases h; exact ⟨rfl, ρ', h2, h3, h4⟩
      | exit j =>
        replace h : bc (Nat.beq j id) (some (Ex.normal, s1)) (some (Ex.exit j, s1)) = some (ex, s') := h
        simp only [Ex.to, Exit.inBlock]
        cases hj : Nat.beq j id with
        | true =>
          rw [hj] at h
          cases h
          rw [if_pos (Nat.eq_of_beq_eq_true hj)]
          exact ⟨rfl, ρ', h2, h3, h4⟩
        | false =>
          rw [hj] at h
          cases h
          rw [if_neg (Nat.ne_of_beq_eq_false hj)]
          exact ⟨rfl, ρ', h2, h3, h4⟩
  | loop b ih =>
    intro s s' ex ρ a w h hd ht
    simp only [okC] at hd
    replace h : loopN (evC pr call n draws keep b) 1000000 s = some (ex, s') := h
    have rounds : ∀ (m : Nat) (s : S3) (ρ : Rho) (a : Act) (w : World), loopN (evC pr call n draws keep b) m s = some (ex, s') → At w0 n ρ s a w → Code.rounds P b (Post w0 n ρ s ex s') m a w := by
      intro m
      induction m with
      | zero => intro s ρ a w h _; cases h
      | succ m ihm =>
        intro s ρ a w h ht
        rw [rounds_succ]
        replace h : thenF (evC pr call n draws keep b s) (loopN (evC pr call n draws keep b) m) = some (ex, s') := h
        cases hb : evC pr call n draws keep b s with
        | none => rw [hb] at h; cases h
        | some r =>
          obtain ⟨e1, s1⟩ := r
          rw [hb] at h
          refine wp_mono (ih hb hd ht) ?_
          rintro e a' w' ⟨rfl, ρ', h2, h3, h4⟩
          cases e1 with
          | normal =>
            have := ihm s1 ρ' a' w' h h4
            have mono : ∀ (k : Nat) (a : Act) (w : World), Code.rounds P b (Post w0 n ρ' s1 ex s') k a w → Code.rounds P b (Post w0 n ρ s ex s') k a w := by
              intro k
              induction k with
              | zero => intro a w h; exact h
              | succ k ihk =>
                intro a w h
                rw [rounds_succ] at h ⊢
                refine wp_mono h fun e a w hp => ?_
                cases e with
                | normal => exact ihk a w hp
                | _ => exact hp.trans h2 h3
            exact mono m a' w' this
          | exit id => cases h; exact ⟨rfl, ρ', h2, h3, h4⟩
          | ret => cases h; exact ⟨rfl, ρ', h2, h3, h4⟩
    exact wp_loop_rounds _ (rounds _ s ρ a w h ht)
  | exit id =>
    intro s s' ex ρ a w h _ ht
    cases h
    exact wp_exit ⟨rfl, ρ, fun _ _ => rfl, Nat.le_refl _, ht⟩
  | ret =>
    intro s s' ex ρ a w h _ ht
    cases h
    exact wp_ret ⟨rfl, ρ, fun _ _ => rfl, Nat.le_refl _, ht⟩
  | _ => intro s s' ex ρ a w h; cases h
end

noncomputable def resF (pr : Pr) (s : S3) : List ResultVar → Option (List V)
  | [] => some []
  | .tmp t :: r => ob (s.env.get t) fun v => ob (resF pr s r) fun l => some (v :: l)
  | .cell a t :: r => ob (s.env.get a) fun p => (match p with
    | .p i f => ob (loadF pr s.H.get t (.p i f)) fun v => ob (resF pr s r) fun l => some (v :: l)
    | _ => none)
def oneOfV : List V → V
  | [v] => v
  | l => .tup l
noncomputable def enterF (n : Nat) : Nat → List V → Env → Option Env
  | _, [], env => some env
  | k, v :: r, env => ob (putE n env (some k) v) fun env' => enterF n (Nat.succ k) r env'
/-- The table of functions is the program's. -/
structure FnOk (P : Program) (f : Nat) (fi : FnI) : Prop where
  fn : ∃ fn : Func, P.funcs[f]? = some fn ∧ fn.body = some fi.code ∧ fn.ntmps = fi.n ∧ fn.results.toList = fi.rs
  call : ∀ as w, (callFunc f as).run P w = .ok (.enter f as) w
  ok : okC fi.draws fi.code = true

section
variable {P : Program} {pr : Pr} {w0 : World} (hok : ∀ t ti, pr.tab.get t = some ti → mkTI P t = some ti)

include hok in
theorem resF_spec {n : Nat} {s : S3} {ρ : Rho} {a : Act} {w : World} (ht : At w0 n ρ s a w) : ∀ {rs : List ResultVar} {l : List V}, resF pr s rs = some l → V.lts s.nx l ∧ (rs.mapM (resOne a.tmps)).run P w = .ok (V.rfs ρ l) w
  | [], l, h => by cases h; exact ⟨trivial, by simp [V.rfs]⟩
  | .tmp t :: r, l, h => by
    unfold resF at h
    replace h := ob_some h; obtain ⟨v, h1, h⟩ := h
    replace h := ob_some h; obtain ⟨l', h2, h⟩ := h
    cases h
    obtain ⟨g1, g2⟩ := resF_spec ht h2
    obtain ⟨k1, k2⟩ := ht.sat.val t v h1
    exact ⟨⟨k2, g1⟩, by simp [List.mapM_cons, resOne, Array.getD_eq_getD_getElem?, k1, g2, V.rfs]⟩
  | .cell x t :: r, l, h => by
    unfold resF at h
    replace h := ob_some h; obtain ⟨p, h1, h⟩ := h
    match p, h, h1 with
    | .p i f, h, h1 =>
      replace h := ob_some h; obtain ⟨v, h3, h⟩ := h
      replace h := ob_some h; obtain ⟨l', h2, h⟩ := h
      cases h
      obtain ⟨g1, g2⟩ := resF_spec ht h2
      obtain ⟨k1, _⟩ := ht.sat.val x _ h1
      obtain ⟨m1, m2⟩ := loadF_sound hok h3 ht.ab
      refine ⟨⟨m1, g1⟩, ?_⟩
      simp only [Instr.loadAt, V.rf, Instr.sureAddr, Sem.run_bind, Sem.run_pure, Result.andThen_ok] at m2
      simp [List.mapM_cons, resOne, Array.getD_eq_getD_getElem?, k1, V.rf, asAddr, m2, g2, V.rfs]

theorem enterF_spec {n : Nat} : ∀ {args : List V} {k : Nat} {env env' : Env}, enterF n k args env = some env' → k + args.length ≤ n ∨ args = [] → 
    (k + args.length ≤ n ∨ args = []) ∧ ∀ t v, env'.get t = some v → (∃ j, t = k + j ∧ args[j]? = some v) ∨ env.get t = some v
  | [], k, env, env', h, hn => by cases h; exact ⟨hn, fun t v ht => .inr ht⟩
  | u :: r, k, env, env', h, hn => by
    unfold enterF at h
    replace h := ob_some h; obtain ⟨e1, h1, h⟩ := h
    replace h1 := gd_some h1; obtain ⟨hg, h1⟩ := h1
    cases h1
    simp only [Bool.and_eq_true] at hg
    have hn' : k + 1 + r.length ≤ n ∨ r = [] := by rcases hn with hn | hn; exact .inl (by simp at hn; omega); cases hn
    obtain ⟨_, h3⟩ := enterF_spec h hn'
    refine ⟨hn, fun t v ht => ?_⟩
    rcases h3 t v ht with ⟨j, rfl, hj⟩ | h4
    · exact .inl ⟨j + 1, by simp [Nat.succ_eq_add_one]; omega, by simpa using hj⟩
    · rw [Env.get, get_setN _ _ _ hg.2] at h4
      by_cases htk : t = k
      · rw [if_pos htk] at h4
        exact .inl ⟨0, by omega, by simpa using h4⟩
      · rw [if_neg htk] at h4; exact .inr h4
theorem enterF_len {n : Nat} : ∀ {args : List V} {k : Nat} {env env' : Env}, enterF n k args env = some env' → k + args.length ≤ n ∨ args = []
  | [], k, env, env', h => .inr rfl
  | u :: r, k, env, env', h => by
    unfold enterF at h
    replace h := ob_some h; obtain ⟨e1, h1, h⟩ := h
    replace h1 := gd_some h1; obtain ⟨hg, h1⟩ := h1
    simp only [Bool.and_eq_true] at hg
    have hk := Nat.le_of_ble_eq_true hg.1
    rcases enterF_len h with h2 | rfl
    · exact .inl (by simp; omega)
    · exact .inl (by simp; omega)

theorem oneOfV_rf (ρ : Rho) (l : List V) : (oneOfV l).rf ρ = (if h : (V.rfs ρ l).toArray.size = 1 then (V.rfs ρ l).toArray[0] else .tuple (V.rfs ρ l).toArray) := by
  match l with
  | [] => rfl
  | [v] => rfl
  | a :: b :: r => simp [oneOfV, V.rf, V.rfs]
theorem oneOfV_lt {nx : Nat} {l : List V} (h : V.lts nx l) : (oneOfV l).lt nx := by
  match l, h with
  | [], h => exact h
  | [v], h => exact h.1
  | a :: b :: r, h => exact h

end
end Go.CE

/- SxCeL -/
namespace Go.CE
open Go.RowKit Go.SX

noncomputable def T.ofL {α : Type} : List (Nat × α) → T α
  | [] => .nil
  | (i, x) :: r => T.set (some x) D (T.ofL r) i
def okKeys {α : Type} : List (Nat × α) → Bool
  | [] => true
  | (i, _) :: r => okN i && okKeys r
theorem T.ofL_mem {α : Type} : ∀ {l : List (Nat × α)}, okKeys l = true → ∀ {i : Nat} {x : α}, (T.ofL l).get i = some x → (i, x) ∈ l
  | [], _, i, x, h => by cases h
  | (j, y) :: r, hk, i, x, h => by
    simp only [okKeys, Bool.and_eq_true] at hk
    unfold T.ofL at h
    rw [get_setN _ _ _ hk.1] at h
    by_cases hi : i = j
    · rw [if_pos hi] at h
      cases h; subst hi; simp
    · rw [if_neg hi] at h
      exact List.mem_cons_of_mem _ (T.ofL_mem hk.2 h)
theorem tab_get {P : Program} {l : List (Nat × TI)} {t : T TI} (ht : t = T.ofL l) (hk : okKeys l = true) (hl : ∀ p ∈ l, mkTI P p.1 = some p.2) : ∀ i ti, t.get i = some ti → mkTI P i = some ti := fun i ti h => by
  subst ht; exact hl _ (T.ofL_mem hk h)
def allFn (P : Program) : List (Nat × FnI) → Prop
  | [] => True
  | p :: r => FnOk P p.1 p.2 ∧ allFn P r
theorem allFn_mem {P : Program} : ∀ {l : List (Nat × FnI)}, allFn P l → ∀ p ∈ l, FnOk P p.1 p.2
  | [], _, p, hp => by cases hp
  | q :: r, h, p, hp => by
    rcases List.mem_cons.1 hp with rfl | hp
    · exact h.1
    · exact allFn_mem h.2 p hp
theorem fns_get {P : Program} {l : List (Nat × FnI)} {t : T FnI} (ht : t = T.ofL l) (hk : okKeys l = true) (hl : allFn P l) : ∀ i fi, t.get i = some fi → FnOk P i fi := fun i fi h => by
  subst ht; exact allFn_mem hl _ (T.ofL_mem hk h)

/-- true? -/
def isTrue : Option (V × Mem × Nat) → Bool
  | some (.c (.bool true), _, _) => true
  | _ => false
theorem isTrue_some {x : Option (V × Mem × Nat)} (h : isTrue x = true) : ∃ H nx, x = some (.c (.bool true), H, nx) := by
  unfold isTrue at h
  split at h
  · exact ⟨_, _, rfl⟩
  · cases h

abbrev W : Nat := 18446744073709551616
def lt64 (a : Nat) : Bool := Nat.ble a 18446744073709551615
theorem lt64_lt {a : Nat} (h : lt64 a = true) : a < 18446744073709551616 := by have := Nat.le_of_ble_eq_true h; omega
def u64V (n : Nat) : Value := .int .u64 (.ofNat n)
noncomputable def orcMul (args : List V) : Option Value :=
  match args with
  | [.c (.int .u64 (.ofNat a)), .c (.int .u64 (.ofNat b)), .c (.int .u64 (.ofNat m))] => gd (lt64 a && lt64 b && lt64 m && !Nat.beq m 0) (forceN (a * b % m) fun r => some (u64V r))
  | _ => none
noncomputable def powF : Nat → Nat → Nat → Nat → Nat → Nat
  | 0, x, _, _, _ => x
  | f + 1, x, b, k, m => match k with
    | 0 => x
    | k' + 1 => forceN (match Nat.succ k' % 2 with | 0 => x | _ => x * b % m) fun x' => forceN (b * b % m) fun b' => forceN (Nat.succ k' / 2) fun k2 => powF f x' b' k2 m
theorem powF_eq : ∀ (f x b k m : Nat), k < 2 ^ f → x < m → powF f x b k m = x * b ^ k % m
  | 0, x, b, k, m, hk, hx => by
    have : k = 0 := by simpa using hk
    subst this
    simp [powF, Nat.mod_eq_of_lt hx]
  | f + 1, x, b, 0, m, hk, hx => by simp [powF, Nat.mod_eq_of_lt hx]
  | f + 1, x, b, k + 1, m, hk, hx => by
    have hk2 : (k + 1) / 2 < 2 ^ f := by rw [Nat.pow_succ] at hk; omega
    have step : ∀ y, y < m → y % m = x * b ^ ((k + 1) % 2) % m → powF f y (b * b % m) ((k + 1) / 2) m = x * b ^ (k + 1) % m := by
      intro y hy e
      rw [powF_eq f y (b * b % m) ((k + 1) / 2) m hk2 hy]
      have e2 : (x * b ^ ((k + 1) % 2)) * (b * b) ^ ((k + 1) / 2) = x * b ^ (k + 1) := by
        rw [← Nat.pow_two, ← Nat.pow_mul, Nat.mul_assoc, ← Nat.pow_add, Nat.mod_add_div]
      rw [← e2, Nat.mul_mod y, Nat.mul_mod (x * b ^ ((k + 1) % 2)), e, Nat.pow_mod, Nat.mod_mod, ← Nat.pow_mod]
    have hm : 0 < m := by omega
    unfold powF
    simp only [forceN_eq, Nat.succ_eq_add_one]
    rcases (show (k + 1) % 2 = 0 ∨ (k + 1) % 2 = 1 by omega) with e | e
    · rw [e]
      exact step x hx (by rw [e]; simp)
    · rw [e]
      exact step (x * b % m) (Nat.mod_lt _ hm) (by rw [e, Nat.pow_one, Nat.mod_mod])
noncomputable def orcPow (args : List V) : Option Value :=
  match args with
  | [.c (.int .u64 (.ofNat a)), .c (.int .u64 (.ofNat n)), .c (.int .u64 (.ofNat m))] => gd (lt64 a && lt64 n && lt64 m && !Nat.beq m 0) (forceN (powF 64 (1 % m) (a % m) n m) fun r => some (u64V r))
  | _ => none
noncomputable def orcMul64 (args : List V) : Option Value :=
  match args with
  | [.c (.int .u64 (.ofNat a)), .c (.int .u64 (.ofNat b))] => gd (lt64 a && lt64 b) (forceN (a * b) fun p => forceN (p / 18446744073709551616) fun h => forceN (p % 18446744073709551616) fun l => some (.tuple #[u64V h, u64V l]))
  | _ => none
noncomputable def orcDiv64 (args : List V) : Option Value :=
  match args with
  | [.c (.int .u64 (.ofNat h)), .c (.int .u64 (.ofNat l)), .c (.int .u64 (.ofNat y))] => gd (lt64 h && lt64 l && lt64 y && Nat.ble (Nat.succ h) y) (forceN (h * 18446744073709551616 + l) fun n => forceN (n / y) fun q => forceN (n % y) fun r => some (.tuple #[u64V q, u64V r]))
  | _ => none
def len64 : Nat → Nat → Nat
  | 0, _ => 0
  | f + 1, a => match a with
    | 0 => 0
    | b + 1 => Nat.succ (len64 f (Nat.succ b / 2))
noncomputable def orcLen64 (args : List V) : Option Value :=
  match args with
  | [.c (.int .u64 (.ofNat a))] => gd (lt64 a) (forceN (len64 64 a) fun r => some (.int .i64 (.ofNat r)))
  | _ => none
def ctz64 : Nat → Nat → Nat
  | 0, _ => 0
  | f + 1, a => match a % 2 with
    | 0 => Nat.succ (ctz64 f (a / 2))
    | _ => 0
noncomputable def orcCtz (args : List V) : Option Value :=
  match args with
  | [.c (.int .u64 (.ofNat a))] => gd (lt64 a && !Nat.beq a 0) (forceN (ctz64 64 a) fun r => some (.int .i64 (.ofNat r)))
  | _ => none
noncomputable def extAdd (args : List V) : Option Value :=
  match args with
  | [.c (.int .u64 (.ofNat a)), .c (.int .u64 (.ofNat b)), .c (.int .u64 (.ofNat c))] => gd (lt64 a && lt64 b && Nat.ble c 1) (forceN (a + b + c) fun s => forceN (s % 18446744073709551616) fun r => forceN (s / 18446744073709551616) fun d => some (.tuple #[u64V r, u64V d]))
  | _ => none
noncomputable def extSub (args : List V) : Option Value :=
  match args with
  | [.c (.int .u64 (.ofNat a)), .c (.int .u64 (.ofNat b)), .c (.int .u64 (.ofNat c))] => gd (lt64 a && lt64 b && Nat.ble c 1) (forceN (36893488147419103232 + a - b - c) fun s => forceN (s % 18446744073709551616) fun r => forceN (match Nat.ble (b + c) a with | true => 0 | false => 1) fun d => some (.tuple #[u64V r, u64V d]))
  | _ => none
end Go.CE

/- SxZc -/
namespace Go.SX
open Go.RowKit
structure RdV where
  base : Option Addr
  cap : Nat
  bs : List Int
def RdV.val (v : RdV) : Value := .slice v.base v.bs.length v.cap
def bytsD (u : RdV) : Asn := rowsA u.base 1 (byts u.bs)
/-- what is left of some bytes -/
structure Rest (u u' : RdV) : Prop where
  drop : ∃ k, u'.bs = u.bs.drop k
  room : u'.bs.length ≤ u'.cap
  data : ∀ R w, (bytsD u).holds R w → (bytsD u').holds R w
theorem Rest.trans {a b c : RdV} (h : Rest a b) (g : Rest b c) : Rest a c := by
  obtain ⟨⟨k, hk⟩, h2, h3⟩ := h
  obtain ⟨⟨j, hj⟩, g2, g3⟩ := g
  exact ⟨⟨k + j, by rw [hj, hk, List.drop_drop]⟩, g2, fun R w hh => g3 R w (h3 R w hh)⟩
theorem Rest.refl {a : RdV} (h : a.bs.length ≤ a.cap) : Rest a a := ⟨⟨0, rfl⟩, h, fun _ _ h => h⟩
theorem Rest.bytes {u u' : RdV} (h : Rest u u') (hb : ∀ x ∈ u.bs, 0 ≤ x ∧ x ≤ 255) : ∀ x ∈ u'.bs, 0 ≤ x ∧ x ≤ 255 := by
  obtain ⟨⟨k, hk⟩, _, _⟩ := h
  intro x hx
  rw [hk] at hx
  exact hb x (List.mem_of_mem_drop hx)
theorem Rest.len {u u' : RdV} (h : Rest u u') : u'.bs.length ≤ u.bs.length := by
  obtain ⟨⟨k, hk⟩, _, _⟩ := h
  rw [hk, List.length_drop]; omega
end Go.SX

/- SxZd -/
namespace Go.SX
open Go.RowKit
end Go.SX

/- SxZe -/
namespace Go.SX
open Go.RowKit
end Go.SX

/- SxZf -/
namespace Go.SX
open Go.RowKit
end Go.SX

/- SxZl -/
namespace Go.SX
open Go.RowKit
end Go.SX

/- SxZm -/
namespace Go.SX
open Go.RowKit
/-- a fact on blocks that are none of some -/
def Asn.off (G : Nat → Prop) (D : Asn) : Asn where
  holds R w := D.holds (fun b => R b ∧ ¬ G b) w
  stable := fun hR hw h => D.stable (fun b hb => ⟨hR b hb.1, hb.2⟩) (fun b hb => hw b hb.1) h
end Go.SX

/- SxZn -/
namespace Go.SX
open Go.RowKit
/-- what is behind the first k of a row of statements -/
def tailC : Nat → Code → Code
  | 0, c => c
  | n + 1, .seq _ b => tailC n b
  | _ + 1, c => c
def bodyC (f : Func) : Code := match f.body with
  | some c => c
  | none => .skip
/-- The state at hand brought into another form (as at a loop's start): what follows is walked from there. -/
theorem Wp.into {cx : Cx} {c : Code} {env : Env} {H : Heap} {S : Asn} {nx : Nat} {K : Exit → Env → Heap → Asn → Nat → Prop} (n1 : Nat) {vals : Env} {hp : Heap} {as : Asn} (θ : Map) (h : Wp cx c vals hp as n1 K)
    (hn : nx ≤ n1) (hwf : envWf n1 vals = true ∧ heapWf n1 hp = true) (hi : Into nx env H S θ vals hp as) : Wp cx c env H S nx K := by
  simp only [Wp_def] at *
  intro ρ a w hs hw
  have hpin : ∀ p ∈ cx.B.pin, p.1 < nx := by
    obtain ⟨R, φ, hw⟩ := hw
    exact fun p hp => (hw.pin p hp).1
  obtain ⟨h1, h2, h3⟩ := hi.sound hwf.1 hwf.2 hn hpin hs hw
  refine wp_mono (h _ a w h1 h2) ?_
  rintro e a' w' ⟨ρ', env', H', S', nx', g1, g2, g3, g4, g5⟩
  exact ⟨ρ', env', H', S', nx', fun i hi => (g1 i (Nat.lt_of_lt_of_le hi hn)).trans (h3 i hi), Nat.le_trans hn g2, g3, g4, g5⟩
end Go.SX

/- SxZr -/
namespace Go.SX
open Go.RowKit
section
variable {cx : Cx} (hok : ∀ p ∈ cx.tab, mkTI cx.P p.1 = some p.2)
end
end Go.SX

