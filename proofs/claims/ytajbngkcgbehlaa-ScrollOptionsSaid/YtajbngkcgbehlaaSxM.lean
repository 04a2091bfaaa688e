import Derived.Test.YtajbngkcgbehlaaSxL
namespace Go.SX
open Go.RowKit

structure leK (m n : Nat) (K : Prop) : Prop where
  out : m ≤ n ∧ K
theorem leK_def {m n : Nat} {K : Prop} : leK m n K = (m ≤ n ∧ K) := propext ⟨fun h => h.out, fun h => ⟨h⟩⟩
structure roomK (n bytes : Nat) (K : Prop) : Prop where
  out : n * bytes ≤ 140737488355328 ∧ K
theorem roomK_def {n bytes : Nat} {K : Prop} : roomK n bytes K = (n * bytes ≤ 140737488355328 ∧ K) := propext ⟨fun h => h.out, fun h => ⟨h⟩⟩
structure roRowsK (a : Addr) (m size : Nat) (S : Asn) (K : List (List Value) → Prop) : Prop where
  out : ∃ ys : List (List Value), ys.length = m ∧ (∀ r ∈ ys, r.length = size ∧ ∀ v ∈ r, v.oneCell' = true) ∧
    (∀ R w, S.holds R w → ∀ i r, ys[i]? = some r → ∀ j v, r[j]? = some v → w.cell? (a.add (i * size + j)) = some v) ∧ K ys
theorem roRowsK_def {a : Addr} {m size : Nat} {S : Asn} {K : List (List Value) → Prop} : roRowsK a m size S K = (∃ ys : List (List Value), ys.length = m ∧ (∀ r ∈ ys, r.length = size ∧ ∀ v ∈ r, v.oneCell' = true) ∧
    (∀ R w, S.holds R w → ∀ i r, ys[i]? = some r → ∀ j v, r[j]? = some v → w.cell? (a.add (i * size + j)) = some v) ∧ K ys) := propext ⟨fun h => h.out, fun h => ⟨h⟩⟩

def srcK (size : Nat) (x : SV) (H : Heap) (S : Asn) (K : List (List Value) → Prop) : Prop :=
  match x with
  | .os j m => findK j (fun e => match e with | .rows ys k _ => bif Nat.beq k size then leK m ys.length (K (ys.take m)) else False | _ => False) H
  | .c (.slice none 0 _) => K []
  | .c (.slice (some a) m _) => roRowsK a m size S K
  | _ => False

theorem srcK_spec {P : Program} {B : Base} {size : Nat} {x : SV} {ρ : Nat → Loc} {nx : Nat} {H : Heap} {S : Asn} {K : List (List Value) → Prop} {w0 : World} (hw0 : Abs B ρ nx H S w0) (h : srcK size x H S K) :
    ∃ ys xb xc, K ys ∧ x.rf ρ = .slice xb ys.length xc ∧ (∀ r ∈ ys, r.length = size ∧ ∀ v ∈ r, v.oneCell' = true) ∧
      ∀ w, Abs B ρ nx H S w → (Builtin.firstCells size ys.length (.slice xb ys.length xc)).run P w = .ok ys.flatten.toArray w := by
  match x, h with
  | .os j m, g =>
    obtain ⟨e, he, g1⟩ := findK_spec g
    cases e with
    | rows ys k T =>
      dsimp only at g1
      cases hk : Nat.beq k size with
      | false => rw [hk] at g1; exact g1.elim
      | true =>
      rw [hk, cond_true] at g1
      obtain rfl := Nat.eq_of_beq_eq_true hk
      rw [leK_def] at g1
      obtain ⟨hm, g2⟩ := g1
      have hlen : (ys.take m).length = m := by simp; omega
      have hrow : ∀ r ∈ ys.take m, r.length = k ∧ ∀ v ∈ r, v.oneCell' = true := by
        obtain ⟨R, φ, hw0⟩ := hw0
        obtain ⟨hl, _, _⟩ := hw0.ent _ he
        exact fun r hr => hl r (List.mem_of_mem_take hr)
      refine ⟨ys.take m, (ρ j).base, (ρ j).cap, g2, by simp only [SV.rf, hlen], hrow, fun w hw => ?_⟩
      obtain ⟨R, φ, hw⟩ := hw
      obtain ⟨hl, hcap, hent⟩ := hw.ent _ he
      simp only at hcap hent
      rcases hent with ⟨hb, hc0, _⟩ | ⟨b, off, c, hb1, hb2, hb3, hb4, hb5⟩
      · have h0 : ys.length = 0 := by omega
        have : ys = [] := List.eq_nil_of_length_eq_zero h0
        subst this
        simp only [hb, List.take_nil, List.flatten_nil]
        exact run_firstCells_none _ _ _ _ _
      · rw [hb1]
        have hkk : ∀ r ∈ ys.take m, r.length = k := fun r hr => (hrow r hr).1
        refine run_firstCells_some (P := P) w k _ _ _ _ _ (flatten_length hkk) fun p v hp => ?_
        rw [add_none]
        have := cells_of_rows hkk (rowsAt_mono hb5) hp
        simpa [World.cell?, hb3] using this
    | _ => exact g1.elim
  | .c (.slice none 0 xc), h => exact ⟨[], none, xc, h, rfl, by simp, fun w _ => run_firstCells_none _ _ _ _ _⟩
  | .c (.slice (some a) m xc), h =>
    have h : roRowsK a m size S K := by
      simp only [srcK] at h; exact h
    rw [roRowsK_def] at h
    obtain ⟨ys, h1, h2, h3, h4⟩ := h
    subst h1
    refine ⟨ys, some a, xc, h4, rfl, h2, fun w hw => ?_⟩
    obtain ⟨R, φ, hw⟩ := hw
    have hkk : ∀ r ∈ ys, r.length = size := fun r hr => (h2 r hr).1
    refine run_firstCells_some (P := P) w size _ _ _ _ _ (flatten_length hkk) fun p v hp => ?_
    obtain ⟨i, j, r, g1, g2, rfl⟩ := flatten_get hkk hp
    exact h3 R w hw.asn i r g1 j v g2

def appendE (cx : Cx) (ts : List TypeId) (args : List SV) (H : Heap) (S : Asn) (nx : Nat) (K : SV → Heap → Prop) : Prop :=
  match ts, args with
  | sT :: xT :: _, s :: x :: _ =>
    tabK sT (fun ti => tabK xT (fun tx => bif Nat.beq ti.kind 1 && Nat.beq tx.kind 1 then tabK ti.elem (fun te => bif Nat.beq te.bytes 0 || !Nat.beq te.zero.length te.size then False else
      srcK te.size x H S (fun ys =>
        match s with
        | .os i len => findK i (fun e => match e with
            | .rows xs k T => bif Nat.beq k te.size && Nat.beq T ti.elem then leK len xs.length (roomK (len + ys.length) te.bytes
                (delHK i (fun H' => K (.os nx (len + ys.length)) ((nx, .rows (xs.take len ++ ys) k T) :: H')) H)) else False
            | _ => False) H
        | .c (.slice none 0 0) => roomK ys.length te.bytes (K (.os nx ys.length) ((nx, .rows ys te.size ti.elem) :: H))
        | .c (.slice (some a) len cap) => srcK te.size (.c (.slice (some a) len cap)) H S (fun xs => leK (cap + 1) (len + ys.length) (roomK (len + ys.length) te.bytes
            (K (.os nx (len + ys.length)) ((nx, .rows (xs ++ ys) te.size ti.elem) :: H))))
        | _ => False)) cx.tab else False) cx.tab) cx.tab
  | _, _ => False

/-- One's own entry gives way to another one in its blocks. -/
theorem Abs.replace {B : Base} {ρ : Nat → Loc} {nx : Nat} {H : Heap} {S : Asn} {w w' : World} {i : Nat} {e e' : Ent} {l : Loc} (h : Abs B ρ nx H S w) (hi : (i, e) ∈ H) (hlt : e'.lt nx)
    (hst : ∀ F, e.holds ρ (ρ i) F w → Step F w w' ∧ e'.holds ρ l F w') : Abs B (upd ρ nx l) (nx + 1) ((nx, e') :: delH i H) S w' := by
  obtain ⟨R, φ, h⟩ := h
  obtain ⟨hs, he'⟩ := hst (φ i) (h.ent _ hi)
  have hR : ∀ b, R b → ¬ φ i b := fun b hb hb' => h.apart _ hi b hb' hb
  have hdel : ∀ p ∈ delH i H, ∀ b, φ p.1 b → ¬ φ i b := by
    have : ∀ {H : Heap}, H.Pairwise (fun p q => p.1 ≠ q.1 ∧ ∀ b, φ p.1 b → ¬ φ q.1 b) → ∀ {e : Ent}, (i, e) ∈ H → ∀ p ∈ delH i H, ∀ b, φ p.1 b → ¬ φ i b := by
      intro H hsep
      induction H with
      | nil => intro e he; cases he
      | cons q r ih =>
        obtain ⟨hq, hr⟩ := List.pairwise_cons.1 hsep
        intro e he p hp b hb
        obtain ⟨qi, qe⟩ := q
        unfold delH at hp
        cases hbq : Nat.beq qi i with
        | true =>
          rw [hbq, cond_true] at hp
          have := Nat.eq_of_beq_eq_true hbq
          subst this
          intro hb'
          exact (hq p hp).2 b hb' hb
        | false =>
          rw [hbq, cond_false] at hp
          have hne := Nat.ne_of_beq_eq_false hbq
          have her : (i, e) ∈ r := (List.mem_cons.1 he).resolve_left (fun g => hne (by simpa using congrArg Prod.fst g.symm))
          rcases List.mem_cons.1 hp with g | g
          · subst g; exact (hq _ her).2 b hb
          · exact ih hr her p g b hb
    exact this h.sep hi
  have h' := (h.drop (delH_sublist i H)).step hs hR hdel
  exact ⟨R, _, h'.add hlt he' (fun b hb hb' => hR b hb' hb) hdel⟩

section
variable {cx : Cx} (hok : ∀ p ∈ cx.tab, mkTI cx.P p.1 = some p.2)

theorem grown_entry {B : Base} {ρ : Nat → Loc} {nx : Nat} {H : Heap} {S : Asn} {w : World} {zs : List (List Value)} {k cap : Nat} {e : TypeId} (h : Abs B ρ nx H S w) (hk : ∀ r ∈ zs, r.length = k ∧ ∀ v ∈ r, v.oneCell' = true) (hcap : zs.length ≤ cap) (rest : List Value)
    (hrest : rest.length = (cap - zs.length) * k) :
    Abs B (upd ρ nx ⟨some ⟨w.heap.size, 0, none⟩, cap⟩) (nx + 1) ((nx, .rows zs k e) :: H) S (w.drew.alloc (.cells (zs.flatten ++ rest).toArray e)) := by
  have hw : Abs B ρ nx H S w.drew := h.drew
  refine hw.alloc (fun y hy => by simp [Ent.hass] at hy) ⟨hk, hcap, .inr ⟨w.heap.size, 0, _, rfl, fun _ => Iff.rfl, alloc_new _ _, ?_, rowsAt_flatten (fun r hr => (hk r hr).1) rest⟩⟩
  have := flatten_length (fun r hr => (hk r hr).1)
  simp only [List.size_toArray, List.length_append, this, hrest, Nat.zero_add]
  rw [← Nat.add_mul]; exact Nat.mul_le_mul_right _ (by omega)

theorem zeroCells_length (z : Array Value) (n : Nat) : (Builtin.zeroCells z n).toList.length = n * z.size := by simp [Builtin.zeroCells]

theorem grownCap_le (w : World) (need old : Nat) (e : TypeId) : need ≤ grownCap w need old e := by
  simp only [grownCap, Question.cut]; omega

include hok in
theorem appendE_sound {ts : Array TypeId} {ty : TypeId} {args : List SV} {ρ : Nat → Loc} {nx : Nat} {H : Heap} {S : Asn} {K : SV → Heap → Prop} {w : World} (h : appendE cx ts.toList args H S nx K) (hw : Abs cx.B ρ nx H S w) :
    ∃ v ρ' H' w', (Builtin.append_ ts ty (SV.rfs ρ args).toArray).run cx.P w = .ok (v.rf ρ') w' ∧ (∀ i, i < nx → ρ' i = ρ i) ∧ v.lt (nx + 1) ∧ Abs cx.B ρ' (nx + 1) H' S w' ∧ K v H' := by
  unfold appendE at h
  match hts : ts.toList, args, h with
  | sT :: xT :: tr, s :: x :: ar, h =>
  have ht0 : ts[0]? = some sT := by rw [← Array.getElem?_toList, hts]; rfl
  have ht1 : ts[1]? = some xT := by rw [← Array.getElem?_toList, hts]; rfl
  obtain ⟨ti, hti, h⟩ := tabK_spec hok h
  obtain ⟨tx, htx, h⟩ := tabK_spec hok h
  cases hk : (Nat.beq ti.kind 1 && Nat.beq tx.kind 1) with
  | false => rw [hk] at h; exact h.elim
  | true =>
  rw [hk, cond_true] at h
  simp only [Bool.and_eq_true] at hk
  obtain ⟨i, d, z, hi0, hd, hz0, rfl⟩ := mkTI_spec hti
  obtain ⟨ix, dx, zx, hix0, hdx, hzx0, rfl⟩ := mkTI_spec htx
  have hk1 := Nat.eq_of_beq_eq_true hk.1
  have hk2 := Nat.eq_of_beq_eq_true hk.2
  have hde' : ∃ e, d = .slice e := by cases d <;> first | exact ⟨_, rfl⟩ | (simp [kindOf] at hk1)
  obtain ⟨e, rfl⟩ := hde'
  have hxi : ∀ k, dx ≠ .int k := by rintro k rfl; simp [kindOf] at hk2
  obtain ⟨te, hte, h⟩ := tabK_spec hok h
  obtain ⟨ie, de, ze, hie, hde, hze, rfl⟩ := mkTI_spec hte
  simp only [elemOf'] at hie h
  cases hb : (Nat.beq ie.bytes 0 || !Nat.beq ze.cells.toList.length ie.size) with
  | true => rw [hb] at h; exact h.elim
  | false =>
  rw [hb, cond_false] at h
  simp only [Bool.or_eq_false_iff, Bool.not_eq_false'] at hb
  have hby : ie.bytes ≠ 0 := Nat.ne_of_beq_eq_false hb.1
  have hzs : ze.cells.size = ie.size := by simpa using Nat.eq_of_beq_eq_true hb.2
  obtain ⟨ys, xb, xc, h, hxr, hys, hfx⟩ := srcK_spec (P := cx.P) hw h
  have hyk : ∀ r ∈ ys, r.length = ie.size := fun r hr => (hys r hr).1
  have hyo : ∀ v ∈ ys.flatten, v.oneCell' = true := fun v hv => by
    obtain ⟨r, hr, hv⟩ := List.mem_flatten.1 hv
    exact (hys r hr).2 v hv
  -- the append as it stands, from the values
  have key : ∀ (sv : Value) v w', s.rf ρ = sv → (Builtin.append_ #[sT, xT] ty #[sv, .slice xb ys.length xc]).run cx.P w = .ok v w' →
      (Builtin.append_ ts ty (SV.rfs ρ (s :: x :: ar)).toArray).run cx.P w = .ok v w' := by
    intro sv v w' hsv hr
    unfold Builtin.append_ at hr ⊢
    simp only [List.getElem?_toArray, List.getElem?_cons_zero, List.getElem?_cons_succ, SV.rfs, ht0, ht1, hsv, hxr] at hr ⊢
    exact hr
  -- a new row
  have out : ∀ (sb : Option Addr) (sLen sCap : Nat) (xs : List (List Value)), (∀ r ∈ xs, r.length = ie.size ∧ ∀ v ∈ r, v.oneCell' = true) → xs.length = sLen → sCap < sLen + ys.length → (sLen + ys.length) * ie.bytes ≤ 140737488355328 →
      (Builtin.firstCells ie.size sLen (.slice sb sLen sCap)).run cx.P w.drew = .ok xs.flatten.toArray w.drew → s.rf ρ = .slice sb sLen sCap → K (.os nx (sLen + ys.length)) ((nx, .rows (xs ++ ys) ie.size e) :: H) →
      ∃ v ρ' H' w', (Builtin.append_ ts ty (SV.rfs ρ (s :: x :: ar)).toArray).run cx.P w = .ok (v.rf ρ') w' ∧ (∀ i, i < nx → ρ' i = ρ i) ∧ v.lt (nx + 1) ∧ Abs cx.B ρ' (nx + 1) H' S w' ∧ K v H' := by
    intro sb sLen sCap xs hxs hxl hneed hroom hfs hsv hK
    have hrun := run_append_out (ty := ty) hd hdx hxi hie hze hby hneed hfs (hfx _ hw.drew) hroom
    refine ⟨.os nx (sLen + ys.length), upd ρ nx ⟨some ⟨w.heap.size, 0, none⟩, grownCap w (sLen + ys.length) sCap e⟩, _, w.drew.alloc (.cells ((xs ++ ys).flatten ++ (Builtin.zeroCells ze.cells (grownCap w (sLen + ys.length) sCap e - (sLen + ys.length))).toList).toArray e), ?_, fun i hi => upd_lt hi, SV.lt_os (by omega), ?_, hK⟩
    rotate_left
    · refine grown_entry hw (zs := xs ++ ys) ?_ ?_ (Builtin.zeroCells ze.cells (grownCap w (sLen + ys.length) sCap e - (sLen + ys.length))).toList ?_
      · intro r hr
        rcases List.mem_append.1 hr with hr | hr
        · exact hxs r hr
        · exact hys r hr
      · rw [List.length_append, hxl]; exact grownCap_le _ _ _ _
      · rw [zeroCells_length, hzs, List.length_append, hxl]
    · refine key _ _ _ hsv ?_
      simp only [SV.rf, upd_same]
      rw [List.flatten_append]
      exact hrun
  match hs : s, h with
  | .os i len, g0 =>
    obtain ⟨en, hen, g1⟩ := findK_spec g0
    cases en with
    | rows xs k T =>
      dsimp only at g1
      cases hkk : (Nat.beq k ie.size && Nat.beq T e) with
      | false => rw [hkk] at g1; exact g1.elim
      | true =>
      rw [hkk, cond_true] at g1
      simp only [Bool.and_eq_true] at hkk
      have e1 := Nat.eq_of_beq_eq_true hkk.1
      have e2 := Nat.eq_of_beq_eq_true hkk.2
      clear h g0
      subst e1
      subst e2
      rw [leK_def] at g1
      obtain ⟨hlen, g2⟩ := g1
      rw [roomK_def] at g2
      obtain ⟨hroom, g3⟩ := g2
      rw [delHK_eq] at g3
      rw [← hs]
      have hent : (∀ r ∈ xs, r.length = ie.size ∧ ∀ v ∈ r, v.oneCell' = true) ∧ xs.length ≤ (ρ i).cap ∧ (((ρ i).base = none ∧ (ρ i).cap = 0) ∨ ∃ b off c, (ρ i).base = some ⟨b, off, none⟩ ∧ w.heap[b]? = some (.cells c T (0, 0)) ∧ off + (ρ i).cap * ie.size ≤ c.size ∧ RowsAt c off ie.size xs) := by
        obtain ⟨R, φ, hw⟩ := hw
        obtain ⟨h1, h2, h3⟩ := hw.ent _ hen
        refine ⟨h1, h2, ?_⟩
        rcases h3 with h3 | ⟨b, off, c, h3, _, h4, h5, h6⟩
        · exact .inl ⟨h3.1, h3.2.1⟩
        · exact .inr ⟨b, off, c, h3, h4, h5, h6⟩
      obtain ⟨hxs, hxc, hent⟩ := hent
      have hxs' : ∀ r ∈ xs.take len, r.length = ie.size ∧ ∀ v ∈ r, v.oneCell' = true := fun r hr => hxs r (List.mem_of_mem_take hr)
      have hzs' : ∀ r ∈ xs.take len ++ ys, r.length = ie.size ∧ ∀ v ∈ r, v.oneCell' = true := fun r hr => (List.mem_append.1 hr).elim (hxs' r) (hys r)
      have hxl : (xs.take len).length = len := by simp; omega
      have hfirst : ∀ u : World, (∀ b off c, (ρ i).base = some ⟨b, off, none⟩ → w.heap[b]? = some (.cells c T (0, 0)) → u.heap[b]? = some (.cells c T (0, 0))) → (Builtin.firstCells ie.size len (.slice (ρ i).base len (ρ i).cap)).run cx.P u = .ok (xs.take len).flatten.toArray u := by
        intro u hu
        rcases hent with ⟨hb, hc⟩ | ⟨b, off, c, hb, hblk, hsz, hrows⟩
        · have : xs = [] := List.eq_nil_of_length_eq_zero (by omega)
          subst this
          simp only [hb, List.take_nil, List.flatten_nil]
          exact run_firstCells_none _ _ _ _ _
        · have hub := hu b off c hb hblk
          rw [hb]
          refine run_firstCells_some (P := cx.P) u ie.size _ _ _ _ _ (by rw [flatten_length (fun r hr => (hxs' r hr).1), hxl]) fun p v hp => ?_
          rw [add_none]
          have := cells_of_rows (fun r hr => (hxs' r hr).1) (rowsAt_mono hrows) hp
          simpa [World.cell?, hub] using this
      by_cases hneed : len + ys.length ≤ (ρ i).cap
      · rcases hent with ⟨hb, hc⟩ | ⟨b, off, c, hb, hblk, hsz, hrows⟩
        · have hl0 : len = 0 := by omega
          have hy0 : ys = [] := List.eq_nil_of_length_eq_zero (by omega)
          subst hl0
          subst hy0
          refine ⟨.os nx 0, upd ρ nx (ρ i), _, w, key (.slice none 0 0) _ _ (by rw [hs]; simp only [SV.rf, hb, hc]) (by simp only [SV.rf, upd_same, hb, hc]; exact run_append_nil0 hd hdx hxi hie (Nat.le_refl _) (hfx w hw)), fun j hj => upd_lt hj, SV.lt_os (by omega), ?_, g3⟩
          refine hw.replace hen (fun y hy => by simp [Ent.hass] at hy) fun F hF => ⟨⟨rfl, rfl, rfl, Nat.le_refl _, fun _ _ _ => rfl⟩, ?_⟩
          obtain ⟨h1, h2, h3⟩ := hF
          refine ⟨by simp, by simp, ?_⟩
          rcases h3 with h3 | ⟨b, off, c, h3, _⟩
          · exact .inl h3
          · rw [hb] at h3; cases h3
        · have hyl := flatten_length hyk
          have hfit : off + len * ie.size + ys.flatten.length ≤ c.size := by
            have : (len + ys.length) * ie.size ≤ (ρ i).cap * ie.size := Nat.mul_le_mul_right _ hneed
            rw [Nat.add_mul] at this
            rw [hyl]; omega
          have hrun := run_append_in (ty := ty) hd hdx hxi hie hneed (hfx w hw) hblk hfit hyo
          refine ⟨.os nx (len + ys.length), upd ρ nx (ρ i), _, w.setRow b (setFrom c.toList (off + len * ie.size) ys.flatten).toArray, key (.slice (some ⟨b, off, none⟩) len (ρ i).cap) _ _ (by rw [hs]; simp only [SV.rf, hb]) (by simp only [SV.rf, upd_same, hb]; exact hrun), fun j hj => upd_lt hj, SV.lt_os (by omega), ?_, g3⟩
          refine hw.replace hen (fun y hy => by simp [Ent.hass] at hy) fun F hF => ?_
          obtain ⟨h1, h2, h3⟩ := hF
          rcases h3 with ⟨h3, _⟩ | ⟨b', off', c', h3, h4, h5, h6, h7⟩
          · rw [hb] at h3; cases h3
          · obtain ⟨rfl, rfl⟩ : b = b' ∧ off = off' := by rw [hb] at h3; simpa using h3
            obtain rfl : c = c' := by rw [hblk] at h5; simpa using h5
            refine ⟨⟨rfl, rfl, rfl, by simp [World.setRow], fun x hx hne => (step_setRow w b _).block x hx (fun e => hne ((h4 x).2 e))⟩, hzs', by rw [List.length_append, hxl]; exact hneed, .inr ⟨b, off, _, h3, h4, setRow_heap w b _ _ T _ hblk, by simpa [setFrom_length] using h6, ?_⟩⟩
            have := rowsAt_append (c := c) (off := off) (k := ie.size) (xs := xs.take len) (ys := ys) (fun r hr => (hxs' r hr).1) hyk (rowsAt_mono hrows) (by
              have : (len + ys.length) * ie.size ≤ (ρ i).cap * ie.size := Nat.mul_le_mul_right _ hneed
              rw [hxl]; omega)
            rw [hxl] at this
            exact this
      · have hrun := run_append_out (ty := ty) hd hdx hxi hie hze hby (Nat.lt_of_not_le hneed) (hfirst w.drew (fun b off c _ h => h)) (hfx _ hw.drew) hroom
        refine ⟨.os nx (len + ys.length), upd ρ nx ⟨some ⟨w.heap.size, 0, none⟩, grownCap w (len + ys.length) (ρ i).cap T⟩, _, w.drew.alloc (.cells ((xs.take len ++ ys).flatten ++ (Builtin.zeroCells ze.cells (grownCap w (len + ys.length) (ρ i).cap T - (len + ys.length))).toList).toArray T), ?_, fun j hj => upd_lt hj, SV.lt_os (by omega), ?_, g3⟩
        · refine key (.slice (ρ i).base len (ρ i).cap) _ _ (by rw [hs]; rfl) ?_
          simp only [SV.rf, upd_same]
          rw [List.flatten_append]
          exact hrun
        · have := grown_entry (e := T) hw hzs' (cap := grownCap w (len + ys.length) (ρ i).cap T) (by rw [List.length_append, hxl]; exact grownCap_le _ _ _ _) (Builtin.zeroCells ze.cells (grownCap w (len + ys.length) (ρ i).cap T - (len + ys.length))).toList (by rw [zeroCells_length, hzs, List.length_append, hxl])
          obtain ⟨R, φ, this⟩ := this
          exact ⟨R, φ, this.drop ((delH_sublist i H).cons_cons _)⟩
    | _ => exact g1.elim
  | .c (.slice none 0 0), h =>
    have h : roomK ys.length ie.bytes (K (.os nx ys.length) ((nx, .rows ys ie.size e) :: H)) := h
    rw [roomK_def] at h
    by_cases hy0 : ys.length = 0
    · have : ys = [] := List.eq_nil_of_length_eq_zero hy0
      subst this
      refine ⟨.os nx 0, upd ρ nx ⟨none, 0⟩, _, w, by rw [← hs]; simp only [SV.rf, upd_same]; exact key (.slice none 0 0) (.slice none 0 0) w (by rw [hs]; rfl) (run_append_nil0 hd hdx hxi hie (Nat.le_refl _) (hfx w hw)), fun i hi => upd_lt hi, SV.lt_os (by omega), ?_, h.2⟩
      · obtain ⟨R, φ, hw⟩ := hw
        exact ⟨R, _, hw.add (F := fun _ => False) (fun y hy => by simp [Ent.hass] at hy) ⟨by simp, Nat.zero_le _, .inl ⟨rfl, rfl, fun _ h => h⟩⟩ (fun _ h => h.elim) (fun _ _ _ _ h => h)⟩
    · rw [← hs]
      exact out none 0 0 [] (by simp) rfl (by omega) (by simpa using h.1) (run_firstCells_none _ _ _ _ _) (by rw [hs]; rfl) (by simpa using h.2)
  | .c (.slice (some a) len cap), h =>
    obtain ⟨xs, xb', xc', h, hxr', hxs, hfs⟩ := srcK_spec (P := cx.P) hw h
    rw [leK_def] at h
    obtain ⟨hcap, h⟩ := h
    rw [roomK_def] at h
    simp only [SV.rf, Value.slice.injEq] at hxr'
    obtain ⟨rfl, hl, rfl⟩ := hxr'
    have hf := hfs _ hw.drew
    rw [← hl] at hf
    rw [← hs]
    exact out (some a) len cap xs hxs hl.symm (by omega) h.1 hf (by rw [hs]; rfl) h.2
end
end Go.SX
