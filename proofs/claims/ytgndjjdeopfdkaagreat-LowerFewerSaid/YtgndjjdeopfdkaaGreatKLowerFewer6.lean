import Derived.DeepKeys
import Derived.Test.YtgndjjdeopfdkaaGreatKLowerFewer5
/- IW -/
namespace Go.Proofs.YtgndjjdeopfdkaaGreat
open Go.SX Go.RowKit
def isLin (n : NodeV) : Prop := n.kind = 3 ∨ n.kind = 4 ∨ n.kind = 5
instance (n : NodeV) : Decidable (isLin n) := inferInstanceAs (Decidable (_ ∨ _))
def inA (n : NodeV) (t : IntsV) : Value := if isLin n then t.val else .slice none 0 0
def fnA (n : NodeV) (t : IntsV) (cnt : Int) : Value := if isLin n then termsF n t.val cnt else .nilFunc
def endsA (n : NodeV) (cnt : Nat) (t : List Int) (a b : Sp) : List Int := if isLin n then linEnds n cnt (termsG n t) a else endsL n a b
def numsA (n : NodeV) (cnt : Nat) (t a b : List Int) : List Int := if isLin n then numsLin n cnt cnt (termsG n t) a else numsL n cnt a b
theorem shapes_pos {g : GraphV} (h : (check g).1 = 0) : ∀ q ∈ (check g).2, 0 < entries q := by
  obtain ⟨_, _, _, hcl, hin⟩ := check_in h
  have key : ∀ i, i ≤ g.l.length → ∀ q ∈ (check g).2.take i, 0 < entries q := by
    intro i
    induction i with
    | zero => intro _ q hq; simp at hq
    | succ i ih =>
      intro hi q hq
      obtain ⟨s, hs, hni⟩ := hin i g.l[i] (List.getElem?_eq_getElem (by omega))
      obtain ⟨hls, hse⟩ := List.getElem?_eq_some_iff.1 hs
      rw [List.take_succ_eq_append_getElem hls, hse] at hq
      rcases List.mem_append.1 hq with hq | hq
      · exact ih (by omega) q hq
      · simp at hq; subst hq
        exact shape_good (formed_of hni.form) (ih (by omega)) hni.shape rfl
  intro q hq
  have := key g.l.length (Nat.le_refl _) q
  rw [List.take_of_length_le (by omega)] at this
  exact this hq
/-- a node at its place: its shape s, the shape t of its first node -/
structure PlaceIn (n : NodeV) (sh : List (List Int)) (s t : List Int) (cnt : Nat) : Prop where
  node : NodeIn n sh s
  cnt : entries s = cnt
  pos : ∀ q ∈ sh, 0 < entries q
  first : isLin n → sh.getD n.a.toNat [] = t ∧ 0 < entries t
theorem PlaceIn.few {n : NodeV} {sh : List (List Int)} {s t : List Int} {cnt : Nat} (h : PlaceIn n sh s t cnt) : 1 ≤ cnt ∧ cnt ≤ 64 := by
  have h1 := shape_good (formed_of h.node.form) h.pos h.node.shape rfl
  have h2 := (entries_bd s).2
  have h3 := h.cnt
  omega
theorem PlaceIn.lin {n : NodeV} {sh : List (List Int)} {s : List Int} {t : IntsV} {cnt : Nat} (h : PlaceIn n sh s t.xs cnt) (hl : isLin n) : ∃ F P0, LinIn n t cnt F P0 :=
  lin_in h.node hl (h.first hl).1 (h.first hl).2 h.pos h.cnt
theorem at_all (w : World) (n : NodeV) (sv : ShapesV) (hs : sv.ok w) (i : Nat) (s t : IntsV) (cnt : Nat) (hi : sv.l[i]? = some s) (hj : sv.l[n.a.toNat]? = some t) (h0 : 0 ≤ n.a) (hc : entries s.xs = cnt) : Calls Tryz.prog 50 #[n.valA, sv.val, .int .i64 i] w fun e w' => e = .returned (placeV n (inA n t) (fnA n t cnt) cnt) ∧ Ext w w' := by
  by_cases hl : isLin n
  · have e1 : inA n t = t.val := if_pos hl
    have e2 : fnA n t cnt = termsF n t.val cnt := if_pos hl
    rw [e1, e2, ← hc]
    exact at_lin w n sv hs i n.a.toNat s t hi hj (by omega) hl
  · have e1 : inA n t = .slice none 0 0 := if_neg hl
    have e2 : fnA n t cnt = .nilFunc := if_neg hl
    rw [e1, e2, ← hc]
    unfold isLin at hl
    exact at_plain w n sv hs i s hi (by omega)
theorem ends_all (w : World) (n : NodeV) (sh : List (List Int)) (s : List Int) (t : IntsV) (cnt : Nat) (h : PlaceIn n sh s t.xs cnt) (hno : n.ok w) (hto : t.ok w) (a b : Sp) (ha : bd20 a.1 ∧ bd20 a.2) (hb : bd20 b.1 ∧ bd20 b.2) : Calls Tryz.prog 51 #[placeV n (inA n t) (fnA n t cnt) cnt, spanV a, spanV b] w (EndsPost w n (endsA n cnt t.xs a b)) := by
  by_cases hl : isLin n
  · obtain ⟨F, P0, hL⟩ := h.lin hl
    have e2 : fnA n t cnt = .func (.func F) #[P0] #[] := (if_pos hl).trans hL.fn
    have e3 : endsA n cnt t.xs a b = linEnds n cnt (termsG n t.xs) a := if_pos hl
    rw [e2, e3]
    exact ends_lin w n _ F P0 cnt _ a b (hL.terms w hto hno) (hL.lin w hno) ha
  · have e3 : endsA n cnt t.xs a b = endsL n a b := if_neg hl
    rw [e3]
    obtain ⟨_, _, h7, h8, h2⟩ := ahead_of h.node.form
    obtain ⟨nd, nb, nlo, nhi, nle⟩ := near_in h.node.near
    have hkind := (formed_of h.node.form).kind
    unfold isLin at hl
    exact ends_plain w n hno.data _ _ _ a b ⟨by omega, nd, h7, h8, nlo, nhi, ha.1, ha.2, hb.1, hb.2⟩
theorem endsA_len {n : NodeV} {sh : List (List Int)} {s t : List Int} {cnt : Nat} (h : PlaceIn n sh s t cnt) (a b : Sp) : 1 ≤ (endsA n cnt t a b).length := by
  unfold endsA
  split
  · have := h.few
    unfold linEnds
    rw [linPre_len]; omega
  · exact endsL_len h.node.form
structure NumIn (n : NodeV) (sh : List (List Int)) (a b : List Int) : Prop where
  aLen : n.kind ≠ 1 → n.kind ≠ 2 → (a.length : Int) = entries (sh.getD n.a.toNat [])
  bLen : n.kind = 6 → (b.length : Int) = entries (sh.getD n.b.toNat [])
theorem shape_rel2 {n : NodeV} {sh : List (List Int)} {s : List Int} (h : shapeO n sh = some s) (hnk : ¬ isLin n) (hk : 1 ≤ n.kind ∧ n.kind ≤ 9) (hk1 : n.kind ≠ 1) : (n.kind = 2 → s = n.shape.xs) ∧ (n.kind ≠ 2 → entries (sh.getD n.a.toNat []) = entries s) ∧ (n.kind = 6 → entries (sh.getD n.b.toNat []) = entries s) := by
  unfold isLin at hnk
  unfold shapeO at h
  by_cases h2 : n.kind = 2
  · rw [if_pos (by omega)] at h
    exact ⟨fun _ => by simpa using h.symm, fun h => absurd h2 h, fun h => by omega⟩
  · rw [if_neg (by omega), if_neg (by omega), if_neg (by omega), if_neg (by omega)] at h
    refine ⟨fun h => absurd h h2, fun _ => ?_, fun h6 => ?_⟩
    · split at h
      · split at h
        · simp only [Option.some.injEq] at h; rw [h]
        · cases h
      · split at h
        · split at h
          · rename_i he; simp only [Option.some.injEq] at h; rw [← h]; exact he.symm
          · cases h
        · simp only [Option.some.injEq] at h; rw [h]
    · rw [if_pos h6] at h
      split at h
      · rename_i he; simp only [Option.some.injEq] at h; rw [← he, h]
      · cases h
/-- the lengths of a plain node's numbers -/
theorem plain_lens {n : NodeV} {sh : List (List Int)} {s t : List Int} {cnt : Nat} (h : PlaceIn n sh s t cnt) (hl : ¬ isLin n) (hk1 : n.kind ≠ 1) {a b : List Int} (hn : NumIn n sh a b) : (n.kind = 2 ∨ n.kind = 6 ∨ n.kind = 7 ∨ n.kind = 8 ∨ n.kind = 9) ∧ (n.kind = 2 → n.data.xs.length = cnt) ∧ (n.kind ≠ 2 → a.length = cnt) ∧ (n.kind = 6 → b.length = cnt) := by
  obtain ⟨_, _, h7, h8, h2⟩ := ahead_of h.node.form
  have hkind := (formed_of h.node.form).kind
  obtain ⟨r2, rA, rB⟩ := shape_rel2 h.node.shape hl hkind hk1
  have hc := h.cnt
  unfold isLin at hl
  refine ⟨by omega, fun hk => ?_, fun hk => ?_, fun hk => ?_⟩
  · have := h2 hk
    rw [← r2 hk, hc] at this
    omega
  · have := hn.aLen hk1 hk
    rw [rA hk, hc] at this
    omega
  · have := hn.bLen hk
    rw [rB hk, hc] at this
    omega
theorem lin_within {A : Sp} {av : List Int} (hA : within A av) : ∀ {l : List Sp} {s1 s s2 : Int}, s1 ≤ s → s ≤ s2 → (∀ t ∈ l, 0 ≤ t.2 ∧ t.2 < av.length) → l.foldl (fLo A) s1 ≤ l.foldl (fNum av) s ∧ l.foldl (fNum av) s ≤ l.foldl (fHi A) s2
  | [], s1, s, s2, h1, h2, _ => ⟨h1, h2⟩
  | t :: r, s1, s, s2, h1, h2, h => by
    have ht := h t List.mem_cons_self
    have hw := within_getD hA (o := t.2.toNat) (by omega)
    have hs := scale_within (d := t.1) hw.1 hw.2
    have m1 : foldI min [t.1 * A.1, t.1 * A.2] = min (t.1 * A.1) (t.1 * A.2) := rfl
    have m2 : foldI max [t.1 * A.1, t.1 * A.2] = max (t.1 * A.1) (t.1 * A.2) := rfl
    rw [m1, m2, Int.mul_comm (av.getD t.2.toNat 0) t.1] at hs
    have e1 : fLo A s1 t = s1 + min (t.1 * A.1) (t.1 * A.2) := rfl
    have e2 : fHi A s2 t = s2 + max (t.1 * A.1) (t.1 * A.2) := rfl
    have e3 : fNum av s t = s + t.1 * av.getD t.2.toNat 0 := rfl
    simp only [List.foldl_cons]
    exact lin_within hA (by omega) (by omega) fun x hx => h x (List.mem_cons_of_mem _ hx)
def spanE (l : List Int) : Sp := (foldI min l, foldI max l)
theorem nums_in {n : NodeV} {sh : List (List Int)} {s : List Int} {t : IntsV} {cnt : Nat} (h : PlaceIn n sh s t.xs cnt) (hk1 : n.kind ≠ 1) {a b : List Int} {A B : Sp} (hn : NumIn n sh a b) (hA : within A a) (hB : within B b) : within (spanE (endsA n cnt t.xs A B)) (numsA n cnt t.xs a b) ∧ (numsA n cnt t.xs a b).length = cnt := by
  by_cases hl : isLin n
  · obtain ⟨F, P0, hL⟩ := h.lin hl
    have e1 : endsA n cnt t.xs A B = linEnds n cnt (termsG n t.xs) A := if_pos hl
    have e3 : numsA n cnt t.xs a b = numsLin n cnt cnt (termsG n t.xs) a := if_pos hl
    rw [e1, e3]
    have hk2 : n.kind ≠ 2 := by unfold isLin at hl; omega
    have hal := hn.aLen hk1 hk2
    rw [(h.first hl).1] at hal
    refine ⟨fun x hx => ?_, by simp [numsLin]⟩
    obtain ⟨o, ho, rfl⟩ := List.mem_map.1 hx
    have ho' := List.mem_range.1 ho
    have hw := lin_within hA (l := termsG n t.xs o) (Int.le_refl (biasI n cnt o)) (Int.le_refl _) fun s hs => by
      have := hL.at_ o ho' s hs
      omega
    have m1 : (termsG n t.xs o).foldl (fLo A) (biasI n cnt o) ∈ linEnds n cnt (termsG n t.xs) A := List.mem_flatMap.2 ⟨o, ho, by simp⟩
    have m2 : (termsG n t.xs o).foldl (fHi A) (biasI n cnt o) ∈ linEnds n cnt (termsG n t.xs) A := List.mem_flatMap.2 ⟨o, ho, by simp⟩
    exact ⟨Int.le_trans (foldI_min_le m1) hw.1, Int.le_trans hw.2 (foldI_max_ge m2)⟩
  · have e1 : endsA n cnt t.xs A B = endsL n A B := if_neg hl
    have e3 : numsA n cnt t.xs a b = numsL n cnt a b := if_neg hl
    rw [e1, e3]
    obtain ⟨q1, q2, q3, q4⟩ := plain_lens h hl hk1 hn
    refine ⟨fun x hx => ?_, by simp [numsL]⟩
    obtain ⟨o, ho, rfl⟩ := List.mem_map.1 hx
    exact num_within q1 q2 q3 q4 hA hB (List.mem_range.1 ho)
end Go.Proofs.YtgndjjdeopfdkaaGreat

/- IX -/
namespace Go.Proofs.YtgndjjdeopfdkaaGreat
abbrev dtIX0 : Go.SX.DT := (.take 0 (.take 1 (.take 2 (.take 3 (.take 4 (.take 5 (.take 6 (.take 7 (.take 8 (.take 9 (.take 10 (.one 11 (.take 12 (.done))))))))))))))
open Go.SX Go.RowKit
theorem getD_memL {l : List (List Int)} {k : Nat} (h : k < l.length) : l.getD k [] ∈ l := by
  rw [List.getD_eq_getElem?_getD, List.getElem?_eq_getElem h]; exact List.getElem_mem h
def endsAt (sh : List (List Int)) (n : NodeV) (acc : List Sp) : List Int := endsA n (entries (sh.getD acc.length [])).toNat (sh.getD n.a.toNat []) (acc.getD n.a.toNat (0, 0)) (acc.getD n.b.toNat (0, 0))
def spansQ (sh : List (List Int)) : List NodeV → List Sp → Int × List Sp
  | [], acc => (0, acc)
  | n :: r, acc =>
    if foldI min (endsAt sh n acc) < -1048576 ∨ 1048576 < foldI max (endsAt sh n acc) then (5, [])
    else spansQ sh r (acc ++ [(foldI min (endsAt sh n acc), foldI max (endsAt sh n acc))])
def spansH (g : GraphV) : Int × List Sp := if (check g).1 ≠ 0 then ((check g).1, []) else spansQ (check g).2 g.l []
/-- a node of a graph that may be stands at its place -/
theorem place_in {g : GraphV} (h : (check g).1 = 0) {i : Nat} {n : NodeV} (hn : g.l[i]? = some n) : (0 ≤ n.a ∧ n.a.toNat < (check g).2.length ∧ (n.a.toNat < i ∨ n.a.toNat = 0)) ∧ (0 ≤ n.b ∧ n.b.toNat < (check g).2.length ∧ (n.b.toNat < i ∨ n.b.toNat = 0)) ∧ ∃ cnt : Nat, entries ((check g).2.getD i []) = cnt ∧ PlaceIn n ((check g).2.take i) ((check g).2.getD i []) ((check g).2.getD n.a.toNat []) cnt := by
  obtain ⟨hl1, hl24, hout, hcl, hin⟩ := check_in h
  have hpos := shapes_pos h
  obtain ⟨hlt, _⟩ := List.getElem?_eq_some_iff.1 hn
  obtain ⟨s, hs, hni⟩ := hin i n hn
  have hti : ((check g).2.take i).length = i := by rw [List.length_take, hcl]; omega
  have hform := hni.form
  rw [hti] at hform
  obtain ⟨hA, hB, _⟩ := ahead_of hform
  have hfo := formed_of hform
  have e1 : (check g).2.getD i [] = s := by rw [List.getD_eq_getElem?_getD, hs]; rfl
  rw [e1]
  refine ⟨⟨hA.1, by omega, by omega⟩, ⟨hB.1, by omega, by omega⟩, (entries s).toNat, by have := (entries_bd s).1; omega, ⟨hni, by have := (entries_bd s).1; omega, fun q hq => hpos q (List.mem_of_mem_take hq), fun hl => ?_⟩⟩
  unfold isLin at hl
  have ha := hfo.a (by omega) (by omega)
  have e2 : ((check g).2.take i).getD n.a.toNat [] = (check g).2.getD n.a.toNat [] := by
    rw [List.getD_eq_getElem?_getD, List.getD_eq_getElem?_getD, List.getElem?_take, if_pos (by omega)]
  refine ⟨e2, hpos _ (getD_memL (by omega))⟩
set_option maxRecDepth 20000 in
theorem spans_all (w : World) (g : GraphV) (hg : g.ok w) : Calls Tryz.prog 22 #[g.val] w (SpansPost w (spansH g)) := by
  refine calls_of tab tabOk Tryz.func22 rfl rfl rfl [] (fun _ => ⟨none, 0⟩) [.agg [.c (.slice g.base g.l.length g.cap), .c (.int .i64 g.out)]] [] (baseA w) 0 rfl rfl (by show 1 ≤ _; decide) (abs_base w) ?_
  (repeat' ((conv => whnf) <;> first | (show drawK _ _ _ _ _ _ _ _; refine draw_quiet tabOk mixed (by kernel_rfl) ?_) | (show Wp _ _ _ _ _ _ _; refine Wp.go tabOk rfl ?_) | (show @cmpK _ _ _; (first | refine cmpY ?_ | refine cmpN ?_ | (refine cmp_both ?_ ?_ <;> intro _))) | (show wrapK _ _ _; refine wrapA ?_) | (show leK _ _ _; refine leA ?_) | (show roomK _ _ _; refine roomA ?_) | (show ltK _ _ _; refine ltA ?_) | (show _ ∧ _; refine ⟨?_, ?_⟩) | (show keepK _ _ _ _ _; refine keepA ?_) | refine own_keep ?_ | refine ap_old ?_))
  refine call_check (f := 24) (check g) Tryz.call24 (fun ρ w' hw => check_any w' g (holds_of_abs hw fun R h => hg.later h)) (fun hne => ?_) (fun he sv hm hsv => ?_)
  · have hq : spansH g = ((check g).1, []) := if_pos hne
    rw [hq]
    (repeat' ((conv => whnf) <;> first | (show @cmpK _ _ _; refine cmp_yes hne ?_) | (show drawK _ _ _ _ _ _ _ _; refine draw_quiet tabOk mixed (by kernel_rfl) ?_) | (show Wp _ _ _ _ _ _ _; refine Wp.go tabOk rfl ?_) | (show @cmpK _ _ _; (first | refine cmpY ?_ | refine cmpN ?_ | (refine cmp_both ?_ ?_ <;> intro _))) | (show wrapK _ _ _; refine wrapA ?_) | (show leK _ _ _; refine leA ?_) | (show roomK _ _ _; refine roomA ?_) | (show ltK _ _ _; refine ltA ?_) | (show _ ∧ _; refine ⟨?_, ?_⟩) | (show keepK _ _ _ _ _; refine keepA ?_) | refine own_keep ?_ | refine ap_old ?_))
    conv => whnf
    exact spans_bad (fun _ _ h => h) rfl hne (fun _ => rfl)
  have hq : spansH g = spansQ (check g).2 g.l [] := if_neg (fun h => h he)
  rw [hq]
  obtain ⟨hl1, hl24, hout, hcl, hin⟩ := check_in he
  have hsl : sv.l.length = g.l.length := by rw [← hcl, ← hm]; simp
  (repeat' ((conv => whnf) <;> first | (show makeK _ _ _ _; (refine make_of g.l.length rfl rfl (by show 16 * _ ≤ _; omega) (by omega) ?_)) | (show drawK _ _ _ _ _ _ _ _; refine draw_quiet tabOk mixed (by kernel_rfl) ?_) | (show Wp _ _ _ _ _ _ _; refine Wp.go tabOk rfl ?_) | (show @cmpK _ _ _; (first | refine cmpY ?_ | refine cmpN ?_ | (refine cmp_both ?_ ?_ <;> intro _))) | (show wrapK _ _ _; refine wrapA ?_) | (show leK _ _ _; refine leA ?_) | (show roomK _ _ _; refine roomA ?_) | (show ltK _ _ _; refine ltA ?_) | (show _ ∧ _; refine ⟨?_, ?_⟩) | (show keepK _ _ _ _ _; refine keepA ?_) | refine own_keep ?_ | refine ap_old ?_))
  refine Wp.loop (σ := Nat × List Sp) 2 (fun ⟨i, _⟩ => [(6, .os 1 g.l.length), (4, .c sv.val), (24, .c (.slice g.base g.l.length g.cap)), (25, .c (.int .i64 g.l.length)), (26, .c (.int .i64 i))]) (fun ⟨_, acc⟩ => [(1, .rows (spRows (gridS g.l.length acc)) 2 58)]) (fun _ => (baseA w).and ((shapesD sv).past w.heap.size))
    (fun ⟨i, acc⟩ => i ≤ g.l.length ∧ acc.length = i ∧ spansQ (check g).2 (g.l.drop i) acc = spansQ (check g).2 g.l [] ∧ (∀ s ∈ acc, bd20 s.1 ∧ bd20 s.2)) (fun s => g.l.length - s.1) (0, []) [] (by decide) (fun s => ⟨rfl, rfl⟩) ⟨Nat.zero_le _, rfl, rfl, fun s hs => by simp at hs⟩ ⟨rfl, ⟨rfl, rfl, rfl, rfl, rfl, trivial⟩, ⟨?_, trivial⟩, fun _ _ h => h⟩ ?_
  · have : spRows (gridS g.l.length []) = List.replicate g.l.length [Value.int .i64 0, .int .i64 0] := by simp [spRows, gridS]
    show (1, Ent.rows (spRows (gridS g.l.length [])) 2 58) ∈ _
    rw [this]
    exact (by repeat (first | exact List.mem_cons_self | apply List.mem_cons_of_mem))
  rintro ⟨i, acc⟩ ⟨hi, hal, hsp, hab⟩
  by_cases hlt : i < g.l.length
  · obtain ⟨a, ha⟩ : ∃ a, g.base = some a := base_some (j := i) hg.rows (by rw [nodeRows_length]; omega)
    have hnm := List.getElem_mem hlt
    obtain ⟨s, hs, hni⟩ := hin i g.l[i] (List.getElem?_eq_getElem hlt)
    have hdrop : g.l.drop i = g.l[i] :: g.l.drop (i + 1) := List.drop_eq_getElem_cons hlt
    rw [hdrop] at hsp
    have hrow := nodeRows_get hlt
    have hpi := place_in he (List.getElem?_eq_getElem hlt)
    generalize g.l[i] = n at *
    have hn := hg.each n hnm
    obtain ⟨⟨ha0, hal2, hai⟩, ⟨hb0, hbl2, hbi⟩, cnt, hcnt, hpl⟩ := hpi
    have e1 : (check g).2.getD i [] = s := by rw [List.getD_eq_getElem?_getD, hs]; rfl
    rw [e1] at hcnt hpl
    obtain ⟨u, hu, hus⟩ : ∃ u, sv.l[i]? = some u ∧ u.xs = s := by
      rw [← hm, List.getElem?_map] at hs
      cases hu : sv.l[i]? with
      | none => rw [hu] at hs; simp at hs
      | some u => rw [hu] at hs; exact ⟨u, rfl, by simpa using hs⟩
    obtain ⟨t, ht, hts⟩ : ∃ t, sv.l[n.a.toNat]? = some t ∧ t.xs = (check g).2.getD n.a.toNat [] := by
      have hlt2 : n.a.toNat < sv.l.length := by omega
      refine ⟨sv.l[n.a.toNat], List.getElem?_eq_getElem hlt2, ?_⟩
      rw [← hm, List.getD_eq_getElem?_getD, List.getElem?_map, List.getElem?_eq_getElem hlt2]; rfl
    have htm : t ∈ sv.l := List.mem_of_getElem? ht
    have hucnt : entries u.xs = cnt := by rw [hus]; exact hcnt
    rw [← hts] at hpl
    have hEq : endsAt (check g).2 n acc = endsA n cnt t.xs (acc.getD n.a.toNat (0, 0)) (acc.getD n.b.toNat (0, 0)) := by
      unfold endsAt
      rw [hal, e1, hcnt, hts]; rfl
    have hA2 := getD_sp hab n.a.toNat
    have hB2 := getD_sp hab n.b.toNat
    have hEL := endsA_len hpl (acc.getD n.a.toNat (0, 0)) (acc.getD n.b.toNat (0, 0))
    have gA := gridS_getD (n := g.l.length) (acc := acc) (j := n.a.toNat) (by omega) (by omega)
    have gB := gridS_getD (n := g.l.length) (acc := acc) (j := n.b.toNat) (by omega) (by omega)
    (repeat' ((conv => whnf) <;> first | (show idxK _ _ _ _ _; refine idx_of a i ha rfl hlt ?_) | (show roAggK _ _ _ _; (refine roAgg_row (fun R w' h => by rw [← ha]; exact rows_base h.1 hg.rows) _ hrow rfl ?_)) | (show callK _ 50 _ _ _ _ _; refine call_pure (f := 50) Tryz.call50 (placeV n (inA n t) (fnA n t cnt) cnt) (fun ρ w' hw => at_all w' n sv (holds_of_abs hw fun R h => shapes_okI hsv (by omega) h.2) i u t cnt hu ht ha0 hucnt) ?_) | (show idxRowK _ _ _ _ _ _; (first | refine idxRow_of n.a.toNat (by omega) (by omega) (by rw [spRows_length, gridS_length (by omega)]; exact Nat.le_refl _) ?_ | refine idxRow_of n.b.toNat (by omega) (by omega) (by rw [spRows_length, gridS_length (by omega)]; exact Nat.le_refl _) ?_)) | (show rowAggK _ _ _ _ _; (first | refine rowAgg_of _ _ gA rfl rfl ?_ | refine rowAgg_of _ _ gB rfl rfl ?_)) | (show drawK _ 9 _ _ _ _ _ _; refine draw_tree tabOk mixed [] _ dtIX0 (by kernel_rfl) (by kernel_rfl) (by kernel_rfl) (List.Sublist.refl _) ?_) | (show callK _ 51 _ _ _ _ _; refine call_past Tryz.call51 (fun x : IntsV × Bool => x.1.val) oldA (fun x => x.1.xs = endsA n cnt t.xs (acc.getD n.a.toNat (0, 0)) (acc.getD n.b.toNat (0, 0)) ∧ x.1.sane ∧ (x.2 = true → x.1 = n.data)) (fun ρ w' hw => ends_all w' n _ s t cnt hpl (holds_of_abs hw fun R h => hn.later h.1) (holds_of_abs hw fun R h => (shapes_okI hsv (by omega) h.2).each t htm) (acc.getD n.a.toNat (0, 0)) (acc.getD n.b.toNat (0, 0)) hA2 hB2) (fun x hx => ?_)) | (show drawK _ _ _ _ _ _ _ _; refine draw_quiet tabOk mixed (by kernel_rfl) ?_) | (show Wp _ _ _ _ _ _ _; refine Wp.go tabOk rfl ?_) | (show @cmpK _ _ _; (first | refine cmpY ?_ | refine cmpN ?_ | (refine cmp_both ?_ ?_ <;> intro _))) | (show wrapK _ _ _; refine wrapA ?_) | (show leK _ _ _; refine leA ?_) | (show roomK _ _ _; refine roomA ?_) | (show ltK _ _ _; refine ltA ?_) | (show _ ∧ _; refine ⟨?_, ?_⟩) | (show keepK _ _ _ _ _; refine keepA ?_) | refine own_keep ?_ | refine ap_old ?_))
    all_goals
      obtain ⟨hx1, hx2, hx3⟩ := hx
      rw [← hx1] at hEL
      by_cases hr : foldI min x.1.xs < -1048576 ∨ 1048576 < foldI max x.1.xs
      · have hq2 : spansQ (check g).2 (n :: g.l.drop (i + 1)) acc = (5, []) := by simp only [spansQ]; rw [hEq, ← hx1, if_pos hr]
        rw [hq2] at hsp
        rw [← hsp]
        (repeat' ((conv => whnf) <;> first | (show callK _ 52 _ _ _ _ _; refine call_pure (f := 52) Tryz.call52 (.int .i64 (foldI min x.1.xs)) (fun ρ w' hw => min_any w' x.1 (holds_of_abs hw fun R h => x_ok hn.data hx2 hx3 h.1.1 h.2) hEL) ?_) | (show callK _ 53 _ _ _ _ _; refine call_pure (f := 53) Tryz.call53 (.int .i64 (foldI max x.1.xs)) (fun ρ w' hw => max_any w' x.1 (holds_of_abs hw fun R h => x_ok hn.data hx2 hx3 h.1.1 h.2) hEL) ?_) | (show idxRowK _ _ _ _ _ _; (refine idxRow_of i rfl hlt (by rw [spRows_length, gridS_length (by first | omega | (rw [List.length_append, List.length_singleton]; omega))]; exact Nat.le_refl _) ?_)) | (show ltK _ _ _; (refine lt_of (by rw [spRows_length, gridS_length (by rw [List.length_append, List.length_singleton]; omega)]; exact hlt) ?_)) | (show rowStoreK _ _ _ _ _; refine gridS_store hal hlt ?_) | (show rowK _ _ _ _; refine row_of _ _ (gridS_at hal hlt) rfl ?_) | (show drawK _ _ _ _ _ _ _ _; refine draw_quiet tabOk mixed (by kernel_rfl) ?_) | (show Wp _ _ _ _ _ _ _; refine Wp.go tabOk rfl ?_) | (show @cmpK _ _ _; (first | refine cmpY ?_ | refine cmpN ?_ | (refine cmp_both ?_ ?_ <;> intro _))) | (show wrapK _ _ _; refine wrapA ?_) | (show leK _ _ _; refine leA ?_) | (show roomK _ _ _; refine roomA ?_) | (show ltK _ _ _; refine ltA ?_) | (show _ ∧ _; refine ⟨?_, ?_⟩) | (show keepK _ _ _ _ _; refine keepA ?_) | refine own_keep ?_ | refine ap_old ?_))
        all_goals (conv => whnf)
        all_goals first | omega | exact spans_bad (fun _ _ h => h.1.1) rfl (by decide) (fun _ => rfl)
      · have hq2 : spansQ (check g).2 (n :: g.l.drop (i + 1)) acc = spansQ (check g).2 (g.l.drop (i + 1)) (acc ++ [(foldI min x.1.xs, foldI max x.1.xs)]) := by
          conv => lhs; unfold spansQ
          rw [hEq, ← hx1, if_neg hr]
        rw [hq2] at hsp
        have hle := foldI_le hEL
        (repeat' ((conv => whnf) <;> first | (show callK _ 52 _ _ _ _ _; refine call_pure (f := 52) Tryz.call52 (.int .i64 (foldI min x.1.xs)) (fun ρ w' hw => min_any w' x.1 (holds_of_abs hw fun R h => x_ok hn.data hx2 hx3 h.1.1 h.2) hEL) ?_) | (show callK _ 53 _ _ _ _ _; refine call_pure (f := 53) Tryz.call53 (.int .i64 (foldI max x.1.xs)) (fun ρ w' hw => max_any w' x.1 (holds_of_abs hw fun R h => x_ok hn.data hx2 hx3 h.1.1 h.2) hEL) ?_) | (show idxRowK _ _ _ _ _ _; (refine idxRow_of i rfl hlt (by rw [spRows_length, gridS_length (by first | omega | (rw [List.length_append, List.length_singleton]; omega))]; exact Nat.le_refl _) ?_)) | (show ltK _ _ _; (refine lt_of (by rw [spRows_length, gridS_length (by rw [List.length_append, List.length_singleton]; omega)]; exact hlt) ?_)) | (show rowStoreK _ _ _ _ _; refine gridS_store hal hlt ?_) | (show rowK _ _ _ _; refine row_of _ _ (gridS_at hal hlt) rfl ?_) | (show drawK _ _ _ _ _ _ _ _; refine draw_quiet tabOk mixed (by kernel_rfl) ?_) | (show Wp _ _ _ _ _ _ _; refine Wp.go tabOk rfl ?_) | (show @cmpK _ _ _; (first | refine cmpY ?_ | refine cmpN ?_ | (refine cmp_both ?_ ?_ <;> intro _))) | (show wrapK _ _ _; refine wrapA ?_) | (show leK _ _ _; refine leA ?_) | (show roomK _ _ _; refine roomA ?_) | (show ltK _ _ _; refine ltA ?_) | (show _ ∧ _; refine ⟨?_, ?_⟩) | (show keepK _ _ _ _ _; refine keepA ?_) | refine own_keep ?_ | refine ap_old ?_))
        all_goals (conv => whnf)
        all_goals exact ⟨(i + 1, acc ++ [(foldI min x.1.xs, foldI max x.1.xs)]), [], ⟨hlt, by rw [List.length_append, hal]; rfl, hsp, fun s hs => by
          rcases List.mem_append.1 hs with h | h
          · exact hab s h
          · simp at h; subst h; unfold bd20; omega⟩, by simp only; omega, rfl, ⟨rfl, rfl, rfl, rfl, rfl, trivial⟩, ⟨(by repeat (first | exact List.mem_cons_self | apply List.mem_cons_of_mem)), trivial⟩, fun _ _ h => h.1⟩
  · obtain rfl : i = g.l.length := by omega
    rw [List.drop_length] at hsp
    (repeat' ((conv => whnf) <;> first | (show drawK _ _ _ _ _ _ _ _; refine draw_quiet tabOk mixed (by kernel_rfl) ?_) | (show Wp _ _ _ _ _ _ _; refine Wp.go tabOk rfl ?_) | (show @cmpK _ _ _; (first | refine cmpY ?_ | refine cmpN ?_ | (refine cmp_both ?_ ?_ <;> intro _))) | (show wrapK _ _ _; refine wrapA ?_) | (show leK _ _ _; refine leA ?_) | (show roomK _ _ _; refine roomA ?_) | (show ltK _ _ _; refine ltA ?_) | (show _ ∧ _; refine ⟨?_, ?_⟩) | (show keepK _ _ _ _ _; refine keepA ?_) | refine own_keep ?_ | refine ap_old ?_))
    conv => whnf
    have hgr : gridS g.l.length acc = acc := by unfold gridS; rw [hal, Nat.sub_self]; simp
    exact spans_good (l := gridS g.l.length acc) (fun _ _ h => h.1) rfl (by repeat (first | exact List.mem_cons_self | apply List.mem_cons_of_mem)) (by rw [hgr, hal]) (by rw [hgr, ← hsp]; rfl)
end Go.Proofs.YtgndjjdeopfdkaaGreat

/- IH -/
namespace Go.Proofs.YtgndjjdeopfdkaaGreat
open Go.SX Go.RowKit
/-- a call of Spans -/
theorem call_spans {cx : Cx} {f : FuncId} {args : List SV} {H : Heap} {S : Asn} {nx : Nat} {K : SV → Heap → Asn → Nat → Prop} (r : Int × List Sp) (hf : ∀ ar w, (callFunc f ar).run cx.P w = .ok (.enter f ar) w)
    (hc : ∀ ρ w', Abs cx.B ρ nx H S w' → Calls cx.P f (SV.rfs ρ args).toArray w' (SpansPost w' r))
    (h0 : r.1 ≠ 0 → K (.c (.tuple #[.slice none 0 0, .int .i64 r.1])) H S nx)
    (h1 : r.1 = 0 → ∀ base cap, K (.c (.tuple #[.slice base r.2.length cap, .int .i64 0])) H (S.and ((rowsA base 2 (spRows r.2)).past cx.B.w0.heap.size)) nx) : callK cx f args H S nx K := by
  rw [callK_def]
  refine ⟨hf, fun ρ w hw => (hc ρ w hw).mono ?_⟩
  rintro e w' (⟨hr, rfl, he⟩ | ⟨hr, v, rfl, he, hn⟩)
  · exact ⟨.c (.tuple #[.slice none 0 0, .int .i64 r.1]), ρ, H, S, nx, rfl, fun _ _ => rfl, Nat.le_refl _, SV.lt_c _, hw.ext he, h0 hr⟩
  · obtain ⟨base, cap, e1, hD⟩ := newRows_data hn
    rw [spRows_length] at e1
    subst e1
    exact ⟨.c (.tuple #[.slice base r.2.length cap, .int .i64 0]), ρ, H, _, nx, rfl, fun _ _ => rfl, Nat.le_refl _, SV.lt_c _, hw.grow he hD, h1 hr base cap⟩
theorem getD_xs (l : List IntsV) (k : Nat) : (l.getD k nilI).xs = (l.map IntsV.xs).getD k [] := by
  rcases Nat.lt_or_ge k l.length with hk | hk
  · simp [List.getD_eq_getElem?_getD, hk]
  · simp [List.getD_eq_getElem?_getD, hk, nilI]
end Go.Proofs.YtgndjjdeopfdkaaGreat

/- IY -/
namespace Go.Proofs.YtgndjjdeopfdkaaGreat
open Go.SX Go.RowKit
def numsAt (sh : List (List Int)) (n : NodeV) (known : List (List Int)) : List Int := numsA n (entries (sh.getD known.length [])).toNat (sh.getD n.a.toNat []) (known.getD n.a.toNat []) (known.getD n.b.toNat [])
def valsQ (sh : List (List Int)) : List NodeV → List (List Int) → List (List Int) → Int × List (List Int)
  | [], known, inp => if 0 < inp.length then (12, []) else (0, known)
  | n :: r, known, inp =>
    if n.kind ≠ 1 then valsQ sh r (known ++ [numsAt sh n known]) inp
    else match inp with
      | [] => (12, [])
      | x :: xs => if (x.length : Int) ≠ entries (sh.getD known.length []) ∨ foldI min x < n.lo ∨ n.hi < foldI max x then (12, []) else valsQ sh r (known ++ [x]) xs
def valsH (g : GraphV) (inp : List (List Int)) : Int × List (List Int) := valsQ (check g).2 g.l [] inp
def runH (g : GraphV) (inp : List (List Int)) : Int × List Int :=
  if (spansH g).1 ≠ 0 then ((spansH g).1, []) else if (valsH g inp).1 ≠ 0 then ((valsH g inp).1, []) else (0, (valsH g inp).2.getD g.out.toNat [])
def spanAt (sh : List (List Int)) (n : NodeV) (acc : List Sp) : Sp := spanE (endsAt sh n acc)
theorem spansQ_in {sh : List (List Int)} : ∀ {l : List NodeV} {acc S : List Sp}, spansQ sh l acc = (0, S) → ∃ q, S = acc ++ q ∧ q.length = l.length ∧ ∀ i n, l[i]? = some n → ∃ s, q[i]? = some s ∧ s = spanAt sh n (acc ++ q.take i) ∧ -1048576 ≤ s.1 ∧ s.2 ≤ 1048576
  | [], acc, S, h => by
    obtain rfl : acc = S := by simpa [spansQ] using h
    exact ⟨[], by simp, rfl, fun i n hn => by simp at hn⟩
  | m :: r, acc, S, h => by
    by_cases hr : (spanAt sh m acc).1 < -1048576 ∨ 1048576 < (spanAt sh m acc).2
    · have : spansQ sh (m :: r) acc = (5, []) := if_pos hr
      rw [this] at h; simp at h
    · have : spansQ sh (m :: r) acc = spansQ sh r (acc ++ [spanAt sh m acc]) := if_neg hr
      rw [this] at h
      obtain ⟨q, hq, hl, ha⟩ := spansQ_in h
      refine ⟨spanAt sh m acc :: q, by rw [hq, List.append_assoc]; rfl, by simp [hl], fun i n hin => ?_⟩
      cases i with
      | zero =>
        simp only [List.getElem?_cons_zero, Option.some.injEq] at hin
        subst hin
        exact ⟨_, rfl, by simp, by omega, by omega⟩
      | succ i =>
        simp only [List.getElem?_cons_succ] at hin
        obtain ⟨t, h1, h2, h3⟩ := ha i n hin
        refine ⟨t, by simpa using h1, ?_, h3⟩
        rw [List.take_succ_cons, show acc ++ spanAt sh m acc :: q.take i = acc ++ [spanAt sh m acc] ++ q.take i by simp]
        exact h2
theorem spansH_in {g : GraphV} (h : (spansH g).1 = 0) : (check g).1 = 0 ∧ (spansH g).2.length = g.l.length ∧ ∀ i n, g.l[i]? = some n → ∃ s, (spansH g).2[i]? = some s ∧ s = spanAt (check g).2 n ((spansH g).2.take i) ∧ -1048576 ≤ s.1 ∧ s.2 ≤ 1048576 := by
  unfold spansH at h ⊢
  by_cases hc : (check g).1 ≠ 0
  · rw [if_pos hc] at h; exact absurd h hc
  · rw [if_neg hc] at h ⊢
    obtain ⟨q, hq, hl, ha⟩ := spansQ_in (l := g.l) (acc := []) (S := (spansQ (check g).2 g.l []).2) (Prod.ext h rfl)
    rw [List.nil_append] at hq
    rw [hq]
    exact ⟨by omega, hl, fun i n hn => by simpa using ha i n hn⟩
/-- known so far: as many as there should be, within their spans -/
structure KnownH (g : GraphV) (kn : List IntsV) (i : Nat) : Prop where
  len : kn.length = i
  sane : ∀ u ∈ kn, u.sane
  each : ∀ (j : Nat) (u : IntsV) (s : Sp) (q : List Int), kn[j]? = some u → (spansH g).2[j]? = some s → (check g).2[j]? = some q → within s u.xs ∧ (u.xs.length : Int) = entries q
theorem known_argH {g : GraphV} {kn : List IntsV} {i : Nat} (hsp : (spansH g).1 = 0) (hkn : KnownH g kn i) (hi : i ≤ g.l.length) (k : Nat) : within (((spansH g).2.take i).getD k (0, 0)) (kn.getD k nilI).xs ∧ (∀ x ∈ (kn.getD k nilI).xs, bd20 x) ∧ (k < i → ((kn.getD k nilI).xs.length : Int) = entries (((check g).2.take i).getD k [])) := by
  obtain ⟨hck, hsl, hsi⟩ := spansH_in hsp
  obtain ⟨hl1, hl24, hout, hcl, hin⟩ := check_in hck
  have hkl := hkn.len
  rcases Nat.lt_or_ge k i with hk | hk
  · have hkg : k < g.l.length := by omega
    obtain ⟨p, hp, _, hp1, hp2⟩ := hsi k g.l[k] (List.getElem?_eq_getElem hkg)
    obtain ⟨s, hs, _⟩ := hin k g.l[k] (List.getElem?_eq_getElem hkg)
    have hk' : k < kn.length := by omega
    obtain ⟨h1, h2⟩ := hkn.each k kn[k] p s (List.getElem?_eq_getElem hk') hp hs
    have e1 : kn.getD k nilI = kn[k] := by rw [List.getD_eq_getElem?_getD, List.getElem?_eq_getElem hk']; rfl
    have e2 : ((spansH g).2.take i).getD k (0, 0) = p := by rw [List.getD_eq_getElem?_getD, List.getElem?_take, if_pos hk, hp]; rfl
    have e3 : ((check g).2.take i).getD k [] = s := by rw [List.getD_eq_getElem?_getD, List.getElem?_take, if_pos hk, hs]; rfl
    rw [e1, e2, e3]
    exact ⟨h1, fun x hx => by have := h1 x hx; unfold bd20; omega, fun _ => h2⟩
  · have e1 : kn.getD k nilI = nilI := by rw [List.getD_eq_getElem?_getD, List.getElem?_eq_none (by omega)]; rfl
    rw [e1]
    exact ⟨fun x hx => by simp [nilI] at hx, fun x hx => by simp [nilI] at hx, fun h => by omega⟩
theorem num_inH {g : GraphV} {kn : List IntsV} {i : Nat} {n : NodeV} (hsp : (spansH g).1 = 0) (hkn : KnownH g kn i) (hi : i ≤ g.l.length) (hf : Formed n i) : NumIn n ((check g).2.take i) (kn.getD n.a.toNat nilI).xs (kn.getD n.b.toNat nilI).xs :=
  ⟨fun k1 k2 => (known_argH hsp hkn hi n.a.toNat).2.2 (by have := hf.a k1 k2; omega), fun k6 => (known_argH hsp hkn hi n.b.toNat).2.2 (by have := hf.b k6; omega)⟩
theorem known_snocH {g : GraphV} {kn : List IntsV} {i : Nat} {x : IntsV} {s : List Int} {p : Sp} (hkn : KnownH g kn i) (hx : x.sane) (hp : (spansH g).2[i]? = some p) (hs : (check g).2[i]? = some s) (hw : within p x.xs) (hl : (x.xs.length : Int) = entries s) : KnownH g (kn ++ [x]) (i + 1) := by
  have hkl := hkn.len
  refine ⟨by rw [List.length_append, hkl]; rfl, fun u hu => ?_, fun j u p' q hu hp' hq => ?_⟩
  · rcases List.mem_append.1 hu with h | h
    · exact hkn.sane u h
    · simp at h; subst h; exact hx
  · rcases Nat.lt_or_ge j i with hj | hj
    · rw [List.getElem?_append_left (by omega)] at hu
      exact hkn.each j u p' q hu hp' hq
    · rw [List.getElem?_append_right (by omega)] at hu
      have h0 : j - kn.length = 0 := by
        rcases Nat.eq_zero_or_pos (j - kn.length) with h | h
        · exact h
        · rw [List.getElem?_eq_none (by simp; omega)] at hu; cases hu
      rw [h0] at hu
      simp only [List.getElem?_cons_zero, Option.some.injEq] at hu
      subst hu
      obtain rfl : j = i := by omega
      rw [hp] at hp'
      rw [hs] at hq
      simp only [Option.some.injEq] at hp' hq
      subst hp' hq
      exact ⟨hw, hl⟩
end Go.Proofs.YtgndjjdeopfdkaaGreat

/- NA -/
namespace Go.Proofs.YtgndjjdeopfdkaaGreat
open Go.SX Go.RowKit
def sameP (a b : NodeP) : Bool := decide (a.kind = b.kind) && decide (a.a = b.a) && decide (a.b = b.b) && decide (a.shape = b.shape) && decide (a.lo = b.lo) && decide (a.hi = b.hi) && decide (a.size = b.size) && decide (a.data = b.data) && decide (a.bias = b.bias)
theorem sameP_iff {a b : NodeP} : sameP a b = true ↔ a = b := by
  unfold sameP
  simp only [Bool.and_eq_true, decide_eq_true_eq]
  constructor
  · rintro ⟨⟨⟨⟨⟨⟨⟨⟨h1, h2⟩, h3⟩, h4⟩, h5⟩, h6⟩, h7⟩, h8⟩, h9⟩
    cases a; cases b; simp only at *; subst_vars; rfl
  · rintro rfl; simp
def nilP : NodeP := ⟨0, 0, 0, [], 0, 0, 0, [], []⟩
def takesP (n : NodeP) : List Int := if n.kind = 1 ∨ n.kind = 2 then [] else if n.kind = 6 then [n.a, n.b] else [n.a]
def movedP (st : List Nat) (n : NodeP) : NodeP :=
  if n.kind = 1 ∨ n.kind = 2 then n else if n.kind = 6 then { n with a := st.getD n.a.toNat 0, b := st.getD n.b.toNat 0 } else { n with a := st.getD n.a.toNat 0 }
def constAt (row : List NodeP) (k : Int) : Bool := decide ((row.getD k.toNat nilP).kind = 2)
def knownP (row : List NodeP) (n : NodeP) : Bool := !decide (n.kind = 1 ∨ n.kind = 2) && constAt row n.a && (decide (n.kind ≠ 6) || constAt row n.b)
def numsP (s : List Int) (row : List NodeP) (n : NodeP) : List Int := numsA n.toV (entries s).toNat (row.getD n.a.toNat nilP).shape (row.getD n.a.toNat nilP).data (if n.kind = 6 then (row.getD n.b.toNat nilP).data else [])
def foldP (s : List Int) (row : List NodeP) (n : NodeP) : NodeP := if knownP row n = true then ⟨2, 0, 0, s, 0, 0, 0, numsP s row n, []⟩ else n
def idxP (n : NodeP) : List NodeP → Nat → Option Nat
  | [], _ => none
  | x :: r, k => if sameP x n = true then some k else idxP n r (k + 1)
def findP (row : List NodeP) (n : NodeP) : Option Nat := if n.kind = 1 then none else idxP n row 0
def layP (row : List NodeP) (n : NodeP) : List NodeP × Nat := match findP row n with | some k => (row, k) | none => (row ++ [n], row.length)
def stepP (s : List Int) (x : List NodeP × List Nat) (n : NodeP) : List NodeP × List Nat :=
  ((layP x.1 (foldP s x.1 (movedP x.2 n))).1, x.2 ++ [(layP x.1 (foldP s x.1 (movedP x.2 n))).2])
def tidyL : List NodeP → List (List Int) → List NodeP × List Nat → List NodeP × List Nat
  | n :: r, s :: ss, x => tidyL r ss (stepP s x n)
  | _, _, x => x
theorem idxP_some {n : NodeP} : ∀ {row : List NodeP} {j k : Nat}, idxP n row j = some k → j ≤ k ∧ row[k - j]? = some n
  | [], _, _, h => by cases h
  | x :: r, j, k, h => by
    unfold idxP at h
    split at h
    · rename_i hs
      simp only [Option.some.injEq] at h
      subst h
      rw [sameP_iff] at hs
      subst hs
      simp
    · obtain ⟨h1, h2⟩ := idxP_some h
      refine ⟨by omega, ?_⟩
      have : k - j = (k - (j + 1)) + 1 := by omega
      rw [this, List.getElem?_cons_succ]; exact h2
theorem findP_some {row : List NodeP} {n : NodeP} {k : Nat} (h : findP row n = some k) : n.kind ≠ 1 ∧ row[k]? = some n := by
  unfold findP at h
  split at h
  · cases h
  · rename_i hk
    exact ⟨hk, by simpa using (idxP_some h).2⟩
def atV (n : NodeV) (a b : Int) : NodeV := ⟨n.kind, a, b, n.shape, n.lo, n.hi, n.size, n.data, n.bias⟩
theorem form_move {n : NodeV} {i k : Nat} {a b : Int} (h : formB n i = true) (ha : n.kind ≠ 1 → n.kind ≠ 2 → 0 ≤ a ∧ a < k) (ha2 : n.kind = 1 ∨ n.kind = 2 → a = n.a) (hb : n.kind = 6 → 0 ≤ b ∧ b < k) (hb2 : n.kind ≠ 6 → b = n.b) : formB (atV n a b) k = true := by
  have hkk := (formed_of h).kind
  unfold formB at h ⊢
  have hk : n.kind = 1 ∨ n.kind = 2 ∨ n.kind = 3 ∨ n.kind = 4 ∨ n.kind = 5 ∨ n.kind = 6 ∨ n.kind = 7 ∨ n.kind = 8 ∨ n.kind = 9 := by omega
  have e1 : (atV n a b).kind = n.kind := rfl
  have e2 : (atV n a b).shape = n.shape := rfl
  have e3 : (atV n a b).data = n.data := rfl
  have e4 : (atV n a b).bias = n.bias := rfl
  have e5 : (atV n a b).size = n.size := rfl
  have e6 : (atV n a b).a = a := rfl
  have e7 : (atV n a b).b = b := rfl
  have e8 : (atV n a b).lo = n.lo := rfl
  have e9 : (atV n a b).hi = n.hi := rfl
  rw [e1]
  rcases hk with hk | hk | hk | hk | hk | hk | hk | hk | hk
  all_goals repeat (first | rw [if_pos hk] at h ⊢ | rw [if_neg (by omega)] at h ⊢)
  all_goals simp only [lacksB, aheadB, Bool.true_or, Bool.false_or, Bool.true_and, Bool.and_true, Bool.and_eq_true, decide_eq_true_eq, e1, e2, e3, e4, e5, e6, e7, e8, e9] at h ⊢
  · have := ha2 (by omega); have := hb2 (by omega); subst_vars; exact h
  · have := ha2 (by omega); have := hb2 (by omega); subst_vars; exact h
  all_goals have hA := ha (by omega) (by omega)
  case inr.inr.inr.inr.inr.inl => have hB := hb hk; refine ⟨⟨h.1.1, hA⟩, hB⟩
  all_goals (have := hb2 (by omega); subst_vars; grind)
theorem shape_move {n : NodeV} {sh sh' : List (List Int)} {a b : Int} (hA : n.kind ≠ 1 → n.kind ≠ 2 → sh'.getD a.toNat [] = sh.getD n.a.toNat []) (hB : n.kind = 6 → sh'.getD b.toNat [] = sh.getD n.b.toNat []) : shapeO (atV n a b) sh' = shapeO n sh := by
  by_cases h12 : n.kind = 1 ∨ n.kind = 2
  · unfold shapeO
    have : (atV n a b).kind = 1 ∨ (atV n a b).kind = 2 := h12
    rw [if_pos h12, if_pos this]; rfl
  · have hA := hA (by omega) (by omega)
    unfold shapeO
    have e1 : (atV n a b).kind = n.kind := rfl
    have e6 : (atV n a b).a = a := rfl
    have e7 : (atV n a b).b = b := rfl
    simp only [e1, e6, e7, hA]
    by_cases h6 : n.kind = 6
    · simp only [hB h6]; rfl
    · simp only [if_neg h6]; rfl
theorem near_move (n : NodeV) (a b : Int) : nearB (atV n a b) = nearB n := by unfold nearB; rfl
theorem ends_move (n : NodeV) (a b : Int) (cnt : Nat) (t : List Int) (A B : Sp) : endsA (atV n a b) cnt t A B = endsA n cnt t A B := rfl
def tight (a b : Sp) : Prop := b.1 ≤ a.1 ∧ a.2 ≤ b.2
theorem tight_refl (a : Sp) : tight a a := ⟨Int.le_refl _, Int.le_refl _⟩
theorem tight_trans {a b c : Sp} (h1 : tight a b) (h2 : tight b c) : tight a c := ⟨Int.le_trans h2.1 h1.1, Int.le_trans h1.2 h2.2⟩
theorem span_tight {L L' : List Int} (h1 : 1 ≤ L'.length) (h : ∀ e ∈ L', foldI min L ≤ e ∧ e ≤ foldI max L) : tight (spanE L') (spanE L) := ⟨(h _ (foldI_min_mem h1)).1, (h _ (foldI_max_mem h1)).2⟩
theorem scale_tight {d a1 a2 b1 b2 : Int} (h1 : b1 ≤ a1) (h2 : a2 ≤ b2) (h3 : a1 ≤ a2) : min (d * b1) (d * b2) ≤ min (d * a1) (d * a2) ∧ max (d * a1) (d * a2) ≤ max (d * b1) (d * b2) := by
  rcases (by omega : 0 ≤ d ∨ d ≤ 0) with hd | hd
  · have := Int.mul_le_mul_of_nonneg_left h1 hd
    have := Int.mul_le_mul_of_nonneg_left h2 hd
    have := Int.mul_le_mul_of_nonneg_left h3 hd
    omega
  · have := Int.mul_le_mul_of_nonpos_left hd h1
    have := Int.mul_le_mul_of_nonpos_left hd h2
    have := Int.mul_le_mul_of_nonpos_left hd h3
    omega
theorem lin_tight {A B : Sp} (h : tight A B) (h3 : A.1 ≤ A.2) : ∀ {l : List Sp} {s1 s2 s3 s4 : Int}, s1 ≤ s2 → s2 ≤ s3 → s3 ≤ s4 → l.foldl (fLo B) s1 ≤ l.foldl (fLo A) s2 ∧ l.foldl (fLo A) s2 ≤ l.foldl (fHi A) s3 ∧ l.foldl (fHi A) s3 ≤ l.foldl (fHi B) s4
  | [], _, _, _, _, h1, h2, h3 => ⟨h1, h2, h3⟩
  | t :: r, s1, s2, s3, s4, h1, h2, h4 => by
    simp only [List.foldl_cons]
    have := scale_tight (d := t.1) h.1 h.2 h3
    exact lin_tight h h3 (by unfold fLo; omega) (by unfold fLo fHi; omega) (by unfold fHi; omega)
theorem one_within {A : Sp} {x : Int} (h1 : A.1 ≤ x) (h2 : x ≤ A.2) : within A [x] := fun y hy => by
  obtain rfl : y = x := by simpa using hy
  exact ⟨h1, h2⟩
theorem plain_tight {n : NodeV} {A A' B B' : Sp} (hk : n.kind = 6 ∨ n.kind = 7 ∨ n.kind = 8 ∨ n.kind = 9) (hA : tight A' A) (hA2 : A'.1 ≤ A'.2) (hB : n.kind = 6 → tight B' B ∧ B'.1 ≤ B'.2) : ∀ e ∈ endsL n A' B', foldI min (endsL n A B) ≤ e ∧ e ≤ foldI max (endsL n A B) := by
  obtain ⟨hA, hA'⟩ := hA
  have key : ∀ x, A'.1 ≤ x → x ≤ A'.2 → ∀ y, (n.kind = 6 → B'.1 ≤ y ∧ y ≤ B'.2) → foldI min (endsL n A B) ≤ numAt n [x] (if n.kind = 6 then [y] else []) 0 ∧ numAt n [x] (if n.kind = 6 then [y] else []) 0 ≤ foldI max (endsL n A B) := fun x h1 h2 y hy => by
    refine num_within (cnt := 1) (by omega) (fun h => by omega) (fun _ => rfl) (fun h => by rw [if_pos h]; rfl) (one_within (by omega) (by omega)) ?_ (Nat.zero_lt_one)
    by_cases h6 : n.kind = 6
    · rw [if_pos h6]
      have := (hB h6).1
      have := hy h6
      exact one_within (by unfold tight at *; omega) (by unfold tight at *; omega)
    · rw [if_neg h6]; exact fun z hz => by simp at hz
  intro e he
  have hE : ∀ x y, e = numAt n [x] (if n.kind = 6 then [y] else []) 0 → A'.1 ≤ x → x ≤ A'.2 → (n.kind = 6 → B'.1 ≤ y ∧ y ≤ B'.2) → foldI min (endsL n A B) ≤ e ∧ e ≤ foldI max (endsL n A B) := fun x y h1 h2 h3 h4 => by rw [h1]; exact key x h2 h3 y h4
  unfold endsL at he
  rw [if_neg (by omega), if_neg (by omega)] at he
  rcases hk with hk | hk | hk | hk
  · have hb := (hB hk).2
    rw [if_pos hk] at he
    have hN : ∀ x y, numAt n [x] (if n.kind = 6 then [y] else []) 0 = x + y := fun x y => by unfold numAt; rw [if_neg (by omega), if_pos hk, if_pos hk]; rfl
    simp only [List.mem_cons, List.not_mem_nil, or_false] at he
    rcases he with he | he
    · exact hE A'.1 B'.1 (by rw [hN]; exact he) (Int.le_refl _) hA2 (fun _ => ⟨Int.le_refl _, hb⟩)
    · exact hE A'.2 B'.2 (by rw [hN]; exact he) hA2 (Int.le_refl _) (fun _ => ⟨hb, Int.le_refl _⟩)
  · rw [if_neg (by omega), if_pos hk] at he
    have hN : ∀ x y, numAt n [x] (if n.kind = 6 then [y] else []) 0 = x * n.data.xs.getD 0 0 := fun x y => by unfold numAt; rw [if_neg (by omega), if_neg (by omega), if_pos hk]; rfl
    simp only [List.mem_cons, List.not_mem_nil, or_false] at he
    rcases he with he | he
    · exact hE A'.1 0 (by rw [hN, Int.mul_comm]; exact he) (Int.le_refl _) hA2 (fun h => by omega)
    · exact hE A'.2 0 (by rw [hN, Int.mul_comm]; exact he) hA2 (Int.le_refl _) (fun h => by omega)
  · rw [if_neg (by omega), if_neg (by omega), if_pos hk] at he
    have hN : ∀ x y, numAt n [x] (if n.kind = 6 then [y] else []) 0 = powI n.data.xs x := fun x y => by unfold numAt; rw [if_neg (by omega), if_neg (by omega), if_neg (by omega), if_pos hk]; rfl
    have h2 : ∀ x, e = powI n.data.xs x → A'.1 ≤ x → x ≤ A'.2 → foldI min (endsL n A B) ≤ e ∧ e ≤ foldI max (endsL n A B) := fun x h1 h2 h3 => hE x 0 (by rw [hN]; exact h1) h2 h3 (fun h => by omega)
    have h3 : e ∈ [powI n.data.xs A'.1, powI n.data.xs A'.2] → foldI min (endsL n A B) ≤ e ∧ e ≤ foldI max (endsL n A B) := fun he => by
      simp only [List.mem_cons, List.not_mem_nil, or_false] at he
      rcases he with he | he
      · exact h2 _ he (Int.le_refl _) hA2
      · exact h2 _ he hA2 (Int.le_refl _)
    split at he
    · exact h3 he
    · rcases List.mem_append.1 he with he | he
      · exact h3 he
      · obtain ⟨x, hx, rfl⟩ := List.mem_map.1 he
        rw [mem_ptsL] at hx
        have q1 : A'.1 ≤ loI n.data.xs A' := by unfold loI; omega
        have q2 : hiI n.data.xs A' ≤ A'.2 := by unfold hiI; omega
        exact h2 x rfl (by omega) (by omega)
  · rw [if_neg (by omega), if_neg (by omega), if_neg (by omega)] at he
    have hN : ∀ x y, numAt n [x] (if n.kind = 6 then [y] else []) 0 = x := fun x y => by unfold numAt; rw [if_neg (by omega), if_neg (by omega), if_neg (by omega), if_neg (by omega)]; rfl
    simp only [List.mem_cons, List.not_mem_nil, or_false] at he
    rcases he with he | he
    · exact hE A'.1 0 (by rw [hN]; exact he) (Int.le_refl _) hA2 (fun h => by omega)
    · exact hE A'.2 0 (by rw [hN]; exact he) hA2 (Int.le_refl _) (fun h => by omega)
theorem ends_tight {n : NodeV} {sh : List (List Int)} {s t : List Int} {cnt : Nat} (h : PlaceIn n sh s t cnt) {A A' B B' : Sp} (hA : n.kind ≠ 1 → n.kind ≠ 2 → tight A' A ∧ A'.1 ≤ A'.2) (hB : n.kind = 6 → tight B' B ∧ B'.1 ≤ B'.2) : tight (spanE (endsA n cnt t A' B')) (spanE (endsA n cnt t A B)) := by
  have hkind := (formed_of h.node.form).kind
  refine span_tight (endsA_len h A' B') ?_
  by_cases hl : isLin n
  · have hk : n.kind = 3 ∨ n.kind = 4 ∨ n.kind = 5 := hl
    have hA := hA (by omega) (by omega)
    have e1 : endsA n cnt t A B = linEnds n cnt (termsG n t) A := if_pos hl
    have e2 : endsA n cnt t A' B' = linEnds n cnt (termsG n t) A' := if_pos hl
    rw [e1, e2]
    intro e he
    obtain ⟨o, ho, he⟩ := List.mem_flatMap.1 he
    have hw := lin_tight hA.1 hA.2 (l := termsG n t o) (Int.le_refl (biasI n cnt o)) (Int.le_refl _) (Int.le_refl _)
    have m1 : (termsG n t o).foldl (fLo A) (biasI n cnt o) ∈ linEnds n cnt (termsG n t) A := List.mem_flatMap.2 ⟨o, ho, by simp⟩
    have m2 : (termsG n t o).foldl (fHi A) (biasI n cnt o) ∈ linEnds n cnt (termsG n t) A := List.mem_flatMap.2 ⟨o, ho, by simp⟩
    have := foldI_min_le m1
    have := foldI_max_ge m2
    simp only [List.mem_cons, List.not_mem_nil, or_false] at he
    rcases he with rfl | rfl <;> omega
  · have e1 : endsA n cnt t A B = endsL n A B := if_neg hl
    have e2 : endsA n cnt t A' B' = endsL n A' B' := if_neg hl
    rw [e1, e2]
    by_cases h12 : n.kind = 1 ∨ n.kind = 2
    · have e3 : endsL n A' B' = endsL n A B := by
        unfold endsL
        rcases h12 with h1 | h2
        · rw [if_pos h1, if_pos h1]
        · rw [if_neg (by omega), if_pos h2, if_neg (by omega), if_pos h2]
      rw [e3]
      exact fun e he => ⟨foldI_min_le he, foldI_max_ge he⟩
    · unfold isLin at hl
      exact plain_tight (by omega) (hA (by omega) (by omega)).1 (hA (by omega) (by omega)).2 hB
theorem spanE_le {n : NodeV} {sh : List (List Int)} {s t : List Int} {cnt : Nat} (h : PlaceIn n sh s t cnt) (A B : Sp) : (spanE (endsA n cnt t A B)).1 ≤ (spanE (endsA n cnt t A B)).2 := foldI_le (endsA_len h A B)
end Go.Proofs.YtgndjjdeopfdkaaGreat

/- QA -/
namespace Go.Proofs.YtgndjjdeopfdkaaGreat
open Go.SX Go.RowKit
structure InsP where
  op : Int
  to_ : Int
  a : Int
  b : Int
  k : Int
structure InpP where
  lo : Int
  hi : Int
  slots : List Int
structure LowP where
  inputs : List InpP
  plains : List (List Int)
  code : List InsP
def lowLay (s : LowP) (op a b k : Int) : LowP × Int := (⟨s.inputs, s.plains, s.code ++ [⟨op, s.code.length, a, b, k⟩]⟩, s.code.length)
def idxR (r : List Int) : List (List Int) → Nat → Option Nat
  | [], _ => none
  | x :: l, k => if x = r then some k else idxR r l (k + 1)
def lowPlain (s : LowP) (r : List Int) : LowP × Int := match idxR r s.plains 0 with
  | some k => (s, k)
  | none => (⟨s.inputs, s.plains ++ [r], s.code⟩, s.plains.length)
/-- numbers put into slots -/
def putR (f : Nat → Int) : List Int → Nat → List Int → List Int
  | [], _, row => row
  | s :: r, e, row => putR f r (e + 1) (row.set s.toNat (f e))
def spreadR (n : Nat) (slots : List Int) (f : Nat → Int) : List Int := putR f slots 0 (List.replicate n 0)
def lowSpread (n : Nat) (s : LowP) (slots : List Int) (f : Nat → Int) : LowP × Int := lowPlain s (spreadR n slots f)
def lowZero (n : Nat) (s : LowP) (x : Int) : LowP × Int := lowLay (lowPlain s (List.replicate n 0)).1 5 x 0 (lowPlain s (List.replicate n 0)).2
def sumAdd (s : LowP) (m : Option Int) (v : Int) : LowP × Int := match m with
  | none => (s, v)
  | some a => lowLay s 3 a v 0
/-- a row turned, once -/
def turnAt (s : LowP) (t : Int → Option Int) (x : Int) (i : Nat) : LowP × (Int → Option Int) × Int := match t i with
  | some a => (s, t, a)
  | none => ((lowLay s 8 x 0 i).1, fun z => if z = i then some (lowLay s 8 x 0 i).2 else t z, (lowLay s 8 x 0 i).2)
structure RowsS where
  s : LowP
  t : Int → Option Int
  m : Option Int
def movedR (n base : Nat) (d : List Int) : List Int := d.drop (n - base) ++ d.take (n - base)
def innerS (n base : Nat) (x : Int) (y : RowsS) (i : Nat) (d : List Int) : RowsS :=
  if d = [] then y else
  let q := turnAt y.s y.t x i
  let p := lowPlain q.1 (movedR n base d)
  let l := lowLay p.1 5 q.2.2 0 p.2
  let a := sumAdd l.1 y.m l.2
  ⟨a.1, q.2.1, some a.2⟩
def innerL (n base : Nat) (x : Int) : List (List Int) → Nat → RowsS → RowsS
  | [], _, y => y
  | d :: r, i, y => innerL n base x r (i + 1) (innerS n base x y i d)
/-- a giant step: what is summed within, then turned, then added -/
def giantS (n base : Nat) (x : Int) (y : RowsS) (ds : List (List Int)) : RowsS :=
  let z := innerL n base x ds 0 ⟨y.s, y.t, none⟩
  match z.m with
  | none => ⟨z.s, z.t, y.m⟩
  | some a =>
    let u := if 0 < base then lowLay z.s 8 a 0 base else (z.s, a)
    let v := sumAdd u.1 y.m u.2
    ⟨v.1, z.t, some v.2⟩
def giantL (n g : Nat) (x : Int) (all : List (List Int)) : Nat → Nat → RowsS → RowsS
  | 0, _, y => y
  | f + 1, base, y => if base < n then giantL n g x all f (base + g) (giantS n base x y ((all.drop base).take (min n (base + g) - base))) else y
def startT (x : Int) : Int → Option Int := fun z => if z = 0 then some x else none
def stepG : Nat → Nat → Nat → Nat
  | 0, _, g => g
  | f + 1, n, g => if g * g < n then stepG f n (2 * g) else g
def giantOf (giant : Bool) (n : Nat) : Nat := if giant then stepG n n 1 else n
def lowRows (n : Nat) (giant : Bool) (s : LowP) (x : Int) (all : List (List Int)) : LowP × Int :=
  let y := giantL n (giantOf giant n) x all n 0 ⟨s, startT x, none⟩
  match y.m with
  | none => lowZero n y.s x
  | some a => (y.s, a)
def lowPower (n : Nat) (s : LowP) (x : Int) (data slots : List Int) : LowP × Int :=
  let a := data.getD 2 0
  let b := data.getD 1 0
  let c := data.getD 0 0
  let y : LowP × Option Int := if a = 0 then (s, none) else
    let q := lowLay s 6 x x 0
    if a = 1 then (q.1, some q.2) else
    let p := lowSpread n q.1 slots (fun _ => a)
    let l := lowLay p.1 5 q.2 0 p.2
    (l.1, some l.2)
  let z : LowP × Option Int := if b = 0 then y else if b = 1 then
      let u := sumAdd y.1 y.2 x
      (u.1, some u.2)
    else
      let p := lowSpread n y.1 slots (fun _ => b)
      let l := lowLay p.1 5 x 0 p.2
      let u := sumAdd l.1 y.2 l.2
      (u.1, some u.2)
  let o : LowP × Int := match z.2 with
    | none => lowZero n z.1 x
    | some m => (z.1, m)
  if c = 0 then o else
    let p := lowSpread n o.1 slots (fun _ => c)
    lowLay p.1 4 o.2 0 p.2
end Go.Proofs.YtgndjjdeopfdkaaGreat

/- GX -/
namespace Go.Proofs.YtgndjjdeopfdkaaGreat
open Go.SX Go.RowKit
structure GoodNode (n : NodeV) (sh : List (List Int)) : Prop where
  form : formB n sh.length = true
  shape : ∃ s, shapeO n sh = some s ∧ ShOk s
  near : nearB n = true
  made : Made n
section
variable {sh : List (List Int)} {u d e : IntsV} {i j : Nat} {s : List Int}
end
end Go.Proofs.YtgndjjdeopfdkaaGreat

/- NB -/
namespace Go.Proofs.YtgndjjdeopfdkaaGreat
open Go.SX Go.RowKit
abbrev gD (l : List (List Int)) (k : Nat) : List Int := l.getD k []
abbrev gS (l : List Sp) (k : Nat) : Sp := l.getD k (0, 0)
def spanP (p : NodeP) (s : List Int) (rsh : List (List Int)) (rsp : List Sp) : Sp := spanE (endsA p.toV (entries s).toNat (gD rsh p.a.toNat) (gS rsp p.a.toNat) (gS rsp p.b.toNat))
structure RowOk (row : List NodeP) (rsh : List (List Int)) (rsp : List Sp) : Prop where
  lenS : rsh.length = row.length
  lenP : rsp.length = row.length
  pos : ∀ q ∈ rsh, 0 < entries q
  node : ∀ k p, row[k]? = some p → NodeIn p.toV (rsh.take k) (gD rsh k)
  span : ∀ k p, row[k]? = some p → gS rsp k = spanP p (gD rsh k) rsh rsp ∧ -1048576 ≤ (gS rsp k).1 ∧ (gS rsp k).2 ≤ 1048576
theorem ends_free {n : NodeV} (h : n.kind = 1 ∨ n.kind = 2) (cnt cnt' : Nat) (t t' : List Int) (A B A' B' : Sp) : endsA n cnt t A B = endsA n cnt' t' A' B' := by
  have hl : ¬ isLin n := by unfold isLin; omega
  have e1 : endsA n cnt t A B = endsL n A B := if_neg hl
  have e2 : endsA n cnt' t' A' B' = endsL n A' B' := if_neg hl
  rw [e1, e2]
  unfold endsL
  rcases h with h1 | h2
  · rw [if_pos h1, if_pos h1]
  · rw [if_neg (by omega), if_pos h2, if_neg (by omega), if_pos h2]
theorem ends_freeB {n : NodeV} (h : n.kind ≠ 6) (cnt : Nat) (t : List Int) (A B B' : Sp) : endsA n cnt t A B = endsA n cnt t A B' := by
  unfold endsA
  split
  · rfl
  · unfold endsL
    rw [if_neg h, if_neg h]
theorem gD_left {l r : List (List Int)} {k : Nat} (h : k < l.length) : gD (l ++ r) k = gD l k := by
  unfold gD; rw [List.getD_eq_getElem?_getD, List.getD_eq_getElem?_getD, List.getElem?_append_left h]
theorem gS_left {l r : List Sp} {k : Nat} (h : k < l.length) : gS (l ++ r) k = gS l k := by
  unfold gS; rw [List.getD_eq_getElem?_getD, List.getD_eq_getElem?_getD, List.getElem?_append_left h]
theorem gD_last {l : List (List Int)} {x : List Int} {k : Nat} (h : k = l.length) : gD (l ++ [x]) k = x := by
  subst h; unfold gD; rw [List.getD_eq_getElem?_getD, List.getElem?_append_right (Nat.le_refl _), Nat.sub_self]; rfl
theorem gS_last {l : List Sp} {x : Sp} {k : Nat} (h : k = l.length) : gS (l ++ [x]) k = x := by
  subst h; unfold gS; rw [List.getD_eq_getElem?_getD, List.getElem?_append_right (Nat.le_refl _), Nat.sub_self]; rfl
theorem gD_take {l : List (List Int)} {i k : Nat} (h : k < i) : gD (l.take i) k = gD l k := by
  unfold gD; rw [List.getD_eq_getElem?_getD, List.getD_eq_getElem?_getD, List.getElem?_take, if_pos h]
theorem gS_take {l : List Sp} {i k : Nat} (h : k < i) : gS (l.take i) k = gS l k := by
  unfold gS; rw [List.getD_eq_getElem?_getD, List.getD_eq_getElem?_getD, List.getElem?_take, if_pos h]
theorem gD_mem {l : List (List Int)} {k : Nat} (h : k < l.length) : gD l k ∈ l := getD_memL h
/-- a node's places -/
structure AheadP (p : NodeP) (k : Nat) : Prop where
  a0 : 0 ≤ p.a
  a1 : p.kind ≠ 1 → p.kind ≠ 2 → p.a.toNat < k
  a2 : p.kind = 1 ∨ p.kind = 2 → p.a = 0
  b0 : 0 ≤ p.b
  b1 : p.kind = 6 → p.b.toNat < k
  b2 : p.kind ≠ 6 → p.b = 0
  kind : 1 ≤ p.kind ∧ p.kind ≤ 9
theorem lacks_ab {n : NodeV} {i : Nat} (h : formB n i = true) : (n.kind = 1 ∨ n.kind = 2 → n.a = 0) ∧ (n.kind ≠ 6 → n.b = 0) := by
  have hkk := (formed_of h).kind
  unfold formB at h
  have hk : n.kind = 1 ∨ n.kind = 2 ∨ n.kind = 3 ∨ n.kind = 4 ∨ n.kind = 5 ∨ n.kind = 6 ∨ n.kind = 7 ∨ n.kind = 8 ∨ n.kind = 9 := by omega
  rcases hk with hk | hk | hk | hk | hk | hk | hk | hk | hk
  all_goals repeat (first | rw [if_pos hk] at h | rw [if_neg (by omega)] at h)
  all_goals simp only [lacksB, Bool.true_or, Bool.false_or, Bool.true_and, Bool.and_true, Bool.and_eq_true, decide_eq_true_eq] at h
  all_goals exact ⟨by omega, by omega⟩
theorem aheadP_of {p : NodeP} {k : Nat} (h : formB p.toV k = true) : AheadP p k := by
  obtain ⟨hA, hB, _⟩ := ahead_of h
  obtain ⟨lA, lB⟩ := lacks_ab h
  have hf := formed_of h
  have e1 : p.toV.kind = p.kind := rfl
  have e2 : p.toV.a = p.a := rfl
  have e3 : p.toV.b = p.b := rfl
  have hfa := hf.a
  have hfb := hf.b
  have hfk := hf.kind
  rw [e1, e2] at *
  rw [e3] at *
  exact ⟨hA.1, fun h1 h2 => by have := hfa h1 h2; omega, lA, hB.1, fun h => by have := hfb h; omega, lB, hfk⟩
theorem RowOk.lenK {row : List NodeP} {rsh : List (List Int)} {rsp : List Sp} (h : RowOk row rsh rsp) {k : Nat} {p : NodeP} (hk : row[k]? = some p) : k < row.length ∧ (rsh.take k).length = k := by
  have hlt := (List.getElem?_eq_some_iff.1 hk).1
  exact ⟨hlt, by rw [List.length_take, h.lenS]; omega⟩
theorem RowOk.ahead {row : List NodeP} {rsh : List (List Int)} {rsp : List Sp} (h : RowOk row rsh rsp) {k : Nat} {p : NodeP} (hk : row[k]? = some p) : AheadP p k := by
  have hf := (h.node k p hk).form
  rw [(h.lenK hk).2] at hf
  exact aheadP_of hf
theorem place_of {p : NodeP} {sh : List (List Int)} {s : List Int} (hn : NodeIn p.toV sh s) (hp : ∀ q ∈ sh, 0 < entries q) : PlaceIn p.toV sh s (gD sh p.a.toNat) (entries s).toNat := by
  refine ⟨hn, by have := (entries_bd s).1; omega, hp, fun hl => ⟨rfl, hp _ (gD_mem ?_)⟩⟩
  have := (aheadP_of hn.form).a1
  have hl : p.kind = 3 ∨ p.kind = 4 ∨ p.kind = 5 := hl
  exact this (by omega) (by omega)
theorem RowOk.place {row : List NodeP} {rsh : List (List Int)} {rsp : List Sp} (h : RowOk row rsh rsp) {k : Nat} {p : NodeP} (hk : row[k]? = some p) : PlaceIn p.toV (rsh.take k) (gD rsh k) (gD (rsh.take k) p.a.toNat) (entries (gD rsh k)).toNat :=
  place_of (h.node k p hk) fun q hq => h.pos q (List.mem_of_mem_take hq)
theorem RowOk.nil : RowOk [] [] [] := ⟨rfl, rfl, fun q hq => by simp at hq, fun k p hk => by simp at hk, fun k p hk => by simp at hk⟩
theorem spanP_left {p : NodeP} {s : List Int} {k : Nat} (ha : AheadP p k) {rsh r1 : List (List Int)} {rsp r2 : List Sp} (h1 : k ≤ rsh.length) (h2 : k ≤ rsp.length) : spanP p s (rsh ++ r1) (rsp ++ r2) = spanP p s rsh rsp := by
  unfold spanP
  by_cases h12 : p.kind = 1 ∨ p.kind = 2
  · rw [ends_free (n := p.toV) h12]
  · have hA := ha.a1 (by omega) (by omega)
    rw [gD_left (by omega), gS_left (by omega)]
    by_cases h6 : p.kind = 6
    · have := ha.b1 h6
      rw [gS_left (by omega)]
    · rw [ends_freeB (n := p.toV) h6]
theorem RowOk.snoc {row : List NodeP} {rsh : List (List Int)} {rsp : List Sp} (h : RowOk row rsh rsp) {m : NodeP} {s : List Int} (hn : NodeIn m.toV rsh s) (h1 : -1048576 ≤ (spanP m s rsh rsp).1) (h2 : (spanP m s rsh rsp).2 ≤ 1048576) : RowOk (row ++ [m]) (rsh ++ [s]) (rsp ++ [spanP m s rsh rsp]) := by
  have l1 := h.lenS
  have l2 := h.lenP
  have hm := aheadP_of hn.form
  refine ⟨by simp [l1], by simp [l2], fun q hq => ?_, fun k p hk => ?_, fun k p hk => ?_⟩
  · rcases List.mem_append.1 hq with hq | hq
    · exact h.pos q hq
    · simp at hq; subst hq
      exact shape_good (formed_of hn.form) h.pos hn.shape rfl
  · rcases Nat.lt_or_ge k row.length with hlt | hge
    · rw [List.getElem?_append_left hlt] at hk
      rw [List.take_append_of_le_length (by omega), gD_left (by omega)]
      exact h.node k p hk
    · rw [List.getElem?_append_right hge] at hk
      have h0 : k - row.length = 0 := by
        rcases Nat.eq_zero_or_pos (k - row.length) with h | h
        · exact h
        · rw [List.getElem?_eq_none (by simp; omega)] at hk; cases hk
      rw [h0] at hk
      simp only [List.getElem?_cons_zero, Option.some.injEq] at hk
      subst hk
      have hk : k = rsh.length := by omega
      rw [gD_last hk, hk, List.take_left]
      exact hn
  · rcases Nat.lt_or_ge k row.length with hlt | hge
    · rw [List.getElem?_append_left hlt] at hk
      have := h.span k p hk
      rw [gS_left (by omega), gD_left (by omega), spanP_left (h.ahead hk) (by omega) (by omega)]
      exact this
    · rw [List.getElem?_append_right hge] at hk
      have h0 : k - row.length = 0 := by
        rcases Nat.eq_zero_or_pos (k - row.length) with h | h
        · exact h
        · rw [List.getElem?_eq_none (by simp; omega)] at hk; cases hk
      rw [h0] at hk
      simp only [List.getElem?_cons_zero, Option.some.injEq] at hk
      subst hk
      rw [gS_last (by omega), gD_last (by omega), spanP_left hm (Nat.le_refl _) (by omega)]
      exact ⟨rfl, h1, h2⟩
/-- such a row as a graph -/
theorem RowOk.checkR {row : List NodeP} {rsh : List (List Int)} {rsp : List Sp} (h : RowOk row rsh rsp) : checkR (row.map NodeP.toV) [] = (0, rsh) := by
  have l1 := h.lenS
  have key : ∀ d k, row.length - k = d → k ≤ row.length → Go.Proofs.YtgndjjdeopfdkaaGreat.checkR ((row.drop k).map NodeP.toV) (rsh.take k) = (0, rsh) := by
    intro d
    induction d with
    | zero =>
      intro k hd hk
      rw [List.drop_of_length_le (by omega), List.take_of_length_le (by omega)]
      rfl
    | succ d ih =>
      intro k hd hk
      have hlt : k < row.length := by omega
      have hn := h.node k row[k] (List.getElem?_eq_getElem hlt)
      rw [List.drop_eq_getElem_cons hlt, List.map_cons, checkR_next hn.form hn.shape hn.near]
      have : rsh.take k ++ [gD rsh k] = rsh.take (k + 1) := by
        have hlt2 : k < rsh.length := by omega
        rw [List.take_succ_eq_append_getElem hlt2]
        unfold gD; rw [List.getD_eq_getElem?_getD, List.getElem?_eq_getElem hlt2]; rfl
      rw [this]
      exact ih (k + 1) (by omega) (by omega)
  simpa using key row.length 0 (by omega) (by omega)
theorem spanP_take {p : NodeP} {s : List Int} {k : Nat} (ha : AheadP p k) {rsh : List (List Int)} {rsp : List Sp} : spanP p s rsh rsp = spanE (endsA p.toV (entries s).toNat (gD rsh p.a.toNat) (gS (rsp.take k) p.a.toNat) (gS (rsp.take k) p.b.toNat)) := by
  unfold spanP
  by_cases h12 : p.kind = 1 ∨ p.kind = 2
  · rw [ends_free (n := p.toV) h12]
  · have hA := ha.a1 (by omega) (by omega)
    rw [gS_take (by omega)]
    by_cases h6 : p.kind = 6
    · rw [gS_take (ha.b1 h6)]
    · rw [ends_freeB (n := p.toV) h6]
theorem RowOk.spansQ {row : List NodeP} {rsh : List (List Int)} {rsp : List Sp} (h : RowOk row rsh rsp) : spansQ rsh (row.map NodeP.toV) [] = (0, rsp) := by
  have l1 := h.lenS
  have l2 := h.lenP
  have key : ∀ d k, row.length - k = d → k ≤ row.length → Go.Proofs.YtgndjjdeopfdkaaGreat.spansQ rsh ((row.drop k).map NodeP.toV) (rsp.take k) = (0, rsp) := by
    intro d
    induction d with
    | zero =>
      intro k hd hk
      rw [List.drop_of_length_le (by omega), List.take_of_length_le (by omega)]
      rfl
    | succ d ih =>
      intro k hd hk
      have hlt : k < row.length := by omega
      have hkk : row[k]? = some row[k] := List.getElem?_eq_getElem hlt
      obtain ⟨q1, q2, q3⟩ := h.span k row[k] hkk
      rw [List.drop_eq_getElem_cons hlt, List.map_cons]
      have e : spanE (endsAt rsh row[k].toV (rsp.take k)) = gS rsp k := by
        rw [q1, spanP_take (h.ahead hkk)]
        unfold endsAt
        rw [List.length_take, Nat.min_eq_left (by omega)]
        rfl
      have e1 : foldI min (endsAt rsh row[k].toV (rsp.take k)) = (gS rsp k).1 := by rw [← e]; rfl
      have e2 : foldI max (endsAt rsh row[k].toV (rsp.take k)) = (gS rsp k).2 := by rw [← e]; rfl
      have : rsp.take k ++ [((gS rsp k).1, (gS rsp k).2)] = rsp.take (k + 1) := by
        have hlt2 : k < rsp.length := by omega
        rw [List.take_succ_eq_append_getElem hlt2]
        unfold gS; rw [List.getD_eq_getElem?_getD, List.getElem?_eq_getElem hlt2]; rfl
      unfold Go.Proofs.YtgndjjdeopfdkaaGreat.spansQ
      rw [e1, e2, if_neg (by omega), this]
      exact ih (k + 1) (by omega) (by omega)
  simpa using key row.length 0 (by omega) (by omega)
theorem RowOk.check {row : List NodeP} {rsh : List (List Int)} {rsp : List Sp} (h : RowOk row rsh rsp) (h24 : row.length ≤ 24) {g : GraphV} (hg : g.l.map NodeV.pl = row) (h0 : 0 ≤ g.out) (h1 : g.out < row.length) : Go.Proofs.YtgndjjdeopfdkaaGreat.check g = (0, rsh) := by
  have hl : g.l.length = row.length := by rw [← hg]; simp
  unfold Go.Proofs.YtgndjjdeopfdkaaGreat.check
  rw [if_neg (by omega), checkR_pl (m := row.map NodeP.toV) [] (by rw [hg, List.map_map]; exact (List.map_id row).symm)]
  exact h.checkR
theorem spansQ_pl {sh : List (List Int)} : ∀ {l m : List NodeV} {acc : List Sp}, l.map NodeV.pl = m.map NodeV.pl → spansQ sh l acc = spansQ sh m acc
  | [], [], _, _ => rfl
  | [], _ :: _, _, h => by simp at h
  | _ :: _, [], _, h => by simp at h
  | x :: l, y :: m, acc, h => by
    simp only [List.map_cons, List.cons.injEq] at h
    have e : endsAt sh x acc = endsAt sh y acc := by
      have : ∀ z : NodeV, endsAt sh z acc = endsAt sh z.pl.toV acc := fun z => rfl
      rw [this x, this y, h.1]
    unfold spansQ
    rw [e]
    split
    · rfl
    · exact spansQ_pl h.2
theorem RowOk.spans {row : List NodeP} {rsh : List (List Int)} {rsp : List Sp} (h : RowOk row rsh rsp) (h24 : row.length ≤ 24) {g : GraphV} (hg : g.l.map NodeV.pl = row) (h0 : 0 ≤ g.out) (h1 : g.out < row.length) : spansH g = (0, rsp) := by
  have hc := h.check h24 hg h0 h1
  unfold spansH
  rw [hc, if_neg (by simp), spansQ_pl (m := row.map NodeP.toV) (by rw [hg, List.map_map]; exact (List.map_id row).symm)]
  exact h.spansQ
end Go.Proofs.YtgndjjdeopfdkaaGreat

/- NC -/
namespace Go.Proofs.YtgndjjdeopfdkaaGreat
open Go.SX Go.RowKit
theorem const_in {p : NodeP} {sh : List (List Int)} {s : List Int} (h : NodeIn p.toV sh s) (h2 : p.kind = 2) : s = p.shape ∧ (p.data.length : Int) = entries p.shape ∧ 0 < entries p.shape ∧ ∀ x ∈ p.data, bd20 x := by
  obtain ⟨_, _, _, _, hd⟩ := ahead_of h.form
  have hs := h.shape
  unfold shapeO at hs
  have hk : p.toV.kind = 2 := h2
  rw [if_pos (.inr hk), Option.some.injEq] at hs
  exact ⟨hs.symm, hd h2, (formed_of h.form).own (.inr (.inl hk)), (near_in h.near).1⟩
theorem spanP_const {p : NodeP} (h2 : p.kind = 2) (s : List Int) (rsh : List (List Int)) (rsp : List Sp) : spanP p s rsh rsp = spanE p.data := by
  unfold spanP
  have hk : p.toV.kind = 2 := h2
  have hl : ¬ isLin p.toV := by unfold isLin; omega
  have e1 : endsA p.toV (entries s).toNat (gD rsh p.a.toNat) (gS rsp p.a.toNat) (gS rsp p.b.toNat) = endsL p.toV (gS rsp p.a.toNat) (gS rsp p.b.toNat) := if_neg hl
  rw [e1]
  unfold endsL
  rw [if_neg (by omega), if_pos hk]
  rfl
/-- where nodes stand, with shapes as they were and spans no wider -/
structure Std (sh : List (List Int)) (sp : List Sp) (rsh : List (List Int)) (rsp : List Sp) (st : List Nat) : Prop where
  lt : ∀ j, j < st.length → st.getD j 0 < rsh.length
  sh : ∀ j, j < st.length → gD rsh (st.getD j 0) = gD sh j
  sp : ∀ j, j < st.length → tight (gS rsp (st.getD j 0)) (gS sp j)
theorem moved_eq (st : List Nat) (n : NodeP) : (movedP st n).toV = atV n.toV (movedP st n).a (movedP st n).b ∧ (movedP st n).kind = n.kind ∧ (n.kind ≠ 1 → n.kind ≠ 2 → (movedP st n).a = st.getD n.a.toNat 0) ∧ (n.kind = 1 ∨ n.kind = 2 → (movedP st n).a = n.a) ∧ (n.kind = 6 → (movedP st n).b = st.getD n.b.toNat 0) ∧ (n.kind ≠ 6 → (movedP st n).b = n.b) := by
  unfold movedP
  by_cases h12 : n.kind = 1 ∨ n.kind = 2
  · rw [if_pos h12]
    exact ⟨rfl, rfl, fun h1 h2 => by omega, fun _ => rfl, fun h => by omega, fun _ => rfl⟩
  · rw [if_neg h12]
    by_cases h6 : n.kind = 6
    · rw [if_pos h6]
      exact ⟨rfl, rfl, fun _ _ => rfl, fun h => absurd h h12, fun _ => rfl, fun h => absurd h6 h⟩
    · rw [if_neg h6]
      exact ⟨rfl, rfl, fun _ _ => rfl, fun h => absurd h h12, fun h => absurd h h6, fun _ => rfl⟩
section
variable {l : List NodeP} {sh : List (List Int)} {sp : List Sp} {row : List NodeP} {rsh : List (List Int)} {rsp : List Sp} {st : List Nat} {n : NodeP}
theorem moved_in (hL : RowOk l sh sp) (hR : RowOk row rsh rsp) (hst : Std sh sp rsh rsp st) (hn : l[st.length]? = some n) : NodeIn (movedP st n).toV rsh (gD sh st.length) ∧ tight (spanP (movedP st n) (gD sh st.length) rsh rsp) (gS sp st.length) := by
  obtain ⟨e0, ek, ea, ea2, eb, eb2⟩ := moved_eq st n
  have hni := hL.node _ _ hn
  have hah := hL.ahead hn
  have hti := (hL.lenK hn).2
  have hf := hni.form
  rw [hti] at hf
  have kk : n.toV.kind = n.kind := rfl
  have ka : n.toV.a = n.a := rfl
  have kb : n.toV.b = n.b := rfl
  have hA : n.kind ≠ 1 → n.kind ≠ 2 → (movedP st n).a.toNat = st.getD n.a.toNat 0 := fun h1 h2 => by rw [ea h1 h2]; omega
  have hB : n.kind = 6 → (movedP st n).b.toNat = st.getD n.b.toNat 0 := fun h => by rw [eb h]; omega
  refine ⟨⟨?_, ?_, ?_⟩, ?_⟩
  · rw [e0]
    refine form_move hf (fun h1 h2 => ?_) (fun h => ?_) (fun h => ?_) (fun h => ?_)
    · have := hst.lt _ (hah.a1 h1 h2)
      rw [ea h1 h2]; omega
    · exact ea2 h
    · have := hst.lt _ (hah.b1 h)
      rw [eb h]; omega
    · exact eb2 h
  · rw [e0, shape_move (sh := sh.take st.length) (fun h1 h2 => ?_) (fun h => ?_)]
    · exact hni.shape
    · show gD rsh (movedP st n).a.toNat = gD (sh.take st.length) n.a.toNat
      rw [hA h1 h2, hst.sh _ (hah.a1 h1 h2), gD_take (hah.a1 h1 h2)]
    · show gD rsh (movedP st n).b.toNat = gD (sh.take st.length) n.b.toNat
      rw [hB h, hst.sh _ (hah.b1 h), gD_take (hah.b1 h)]
  · rw [e0, near_move]; exact hni.near
  · obtain ⟨q1, q2, q3⟩ := hL.span _ _ hn
    rw [q1, spanP_take hah]
    unfold spanP
    rw [e0, ends_move]
    by_cases h12 : n.kind = 1 ∨ n.kind = 2
    · rw [ends_free (n := n.toV) h12 _ (entries (gD sh st.length)).toNat _ (gD sh n.a.toNat) _ _ (gS (sp.take st.length) n.a.toNat) (gS (sp.take st.length) n.b.toNat)]
      exact tight_refl _
    · have ha1 := hah.a1 (by omega) (by omega)
      have hp := hL.place hn
      rw [gD_take ha1] at hp
      rw [hA (by omega) (by omega), hst.sh _ ha1, gS_take ha1]
      have lo : ∀ j, j < st.length → (gS rsp (st.getD j 0)).1 ≤ (gS rsp (st.getD j 0)).2 := fun j hj => by
        have hk := hst.lt j hj
        rw [hR.lenS] at hk
        have hk' := List.getElem?_eq_getElem hk
        rw [(hR.span _ _ hk').1]
        unfold spanP
        by_cases g12 : (row[st.getD j 0]).kind = 1 ∨ (row[st.getD j 0]).kind = 2
        · rw [ends_free (n := (row[st.getD j 0]).toV) g12 _ _ _ _ _ _ (0, 0) (0, 0)]
          exact spanE_le (hR.place hk') (0, 0) (0, 0)
        · have := (hR.ahead hk').a1 (by omega) (by omega)
          have hp2 := hR.place hk'
          rw [gD_take this] at hp2
          exact spanE_le hp2 _ _
      refine ends_tight hp (fun h1 h2 => ⟨hst.sp _ ha1, lo _ ha1⟩) (fun h6 => ?_)
      have h6' : n.kind = 6 := h6
      have hb1 := hah.b1 h6'
      rw [hB h6', gS_take hb1]
      exact ⟨hst.sp _ hb1, lo _ hb1⟩
theorem getD_some {row : List NodeP} {k : Nat} (h : k < row.length) : row[k]? = some (row.getD k nilP) := by
  rw [List.getD_eq_getElem?_getD, List.getElem?_eq_getElem h]; rfl
/-- what is known of a node all of whose places are constants -/
structure KnownIn (row : List NodeP) (rsh : List (List Int)) (rsp : List Sp) (m : NodeP) (s : List Int) : Prop where
  kind : m.kind ≠ 1 ∧ m.kind ≠ 2
  aLt : m.a.toNat < row.length
  aK : (row.getD m.a.toNat nilP).kind = 2
  aSh : gD rsh m.a.toNat = (row.getD m.a.toNat nilP).shape
  aLen : ((row.getD m.a.toNat nilP).data.length : Int) = entries (row.getD m.a.toNat nilP).shape
  aSp : gS rsp m.a.toNat = spanE (row.getD m.a.toNat nilP).data
  bLt : m.kind = 6 → m.b.toNat < row.length
  bK : m.kind = 6 → (row.getD m.b.toNat nilP).kind = 2
  bSh : m.kind = 6 → gD rsh m.b.toNat = (row.getD m.b.toNat nilP).shape
  bLen : m.kind = 6 → ((row.getD m.b.toNat nilP).data.length : Int) = entries (row.getD m.b.toNat nilP).shape
  bSp : m.kind = 6 → gS rsp m.b.toNat = spanE (row.getD m.b.toNat nilP).data
theorem const_at (hR : RowOk row rsh rsp) {k : Nat} (hk : k < row.length) (h2 : (row.getD k nilP).kind = 2) : gD rsh k = (row.getD k nilP).shape ∧ ((row.getD k nilP).data.length : Int) = entries (row.getD k nilP).shape ∧ gS rsp k = spanE (row.getD k nilP).data ∧ (∀ x ∈ (row.getD k nilP).data, bd20 x) ∧ 0 < entries (row.getD k nilP).shape := by
  have hk' := getD_some hk
  obtain ⟨q1, q2, q3, q4⟩ := const_in (hR.node k _ hk') h2
  obtain ⟨p1, _, _⟩ := hR.span k _ hk'
  rw [spanP_const h2] at p1
  exact ⟨q1, q2, p1, q4, q3⟩
theorem known_in (hR : RowOk row rsh rsp) {m : NodeP} {s : List Int} (hm : NodeIn m.toV rsh s) (hk : knownP row m = true) : KnownIn row rsh rsp m s := by
  have hah := aheadP_of hm.form
  rw [hR.lenS] at hah
  unfold knownP constAt at hk
  simp only [Bool.and_eq_true, Bool.not_eq_true', decide_eq_false_iff_not, decide_eq_true_eq, Bool.or_eq_true] at hk
  obtain ⟨⟨h12, hA⟩, hB⟩ := hk
  have a1 := hah.a1 (by omega) (by omega)
  obtain ⟨c1, c2, c3, _⟩ := const_at hR a1 hA
  refine ⟨by omega, a1, hA, c1, c2, c3, hah.b1, fun h => ?_, fun h => ?_, fun h => ?_, fun h => ?_⟩
  · exact hB.resolve_left (fun g => g h)
  all_goals
    obtain ⟨c1, c2, c3, _⟩ := const_at hR (hah.b1 h) (hB.resolve_left (fun g => g h))
    assumption
def bData (row : List NodeP) (m : NodeP) : List Int := if m.kind = 6 then (row.getD m.b.toNat nilP).data else []
theorem within_data {l : List Int} : within (spanE l) l := fun x hx => ⟨foldI_min_le hx, foldI_max_ge hx⟩
theorem numIn_of (hR : RowOk row rsh rsp) {m : NodeP} {s : List Int} (h : KnownIn row rsh rsp m s) : NumIn m.toV rsh (row.getD m.a.toNat nilP).data (bData row m) :=
  ⟨fun _ _ => by show _ = entries (gD rsh m.a.toNat); rw [h.aSh]; exact h.aLen, fun h6 => by
    have h6' : m.kind = 6 := h6
    show _ = entries (gD rsh m.b.toNat)
    unfold bData
    rw [if_pos h6', h.bSh h6']; exact h.bLen h6'⟩
theorem numsP_in (hR : RowOk row rsh rsp) {m : NodeP} {s : List Int} (hm : NodeIn m.toV rsh s) (h : KnownIn row rsh rsp m s) : within (spanP m s rsh rsp) (numsP s row m) ∧ (numsP s row m).length = (entries s).toNat := by
  have hp := place_of hm hR.pos
  have hA : within (gS rsp m.a.toNat) (row.getD m.a.toNat nilP).data := by rw [h.aSp]; exact within_data
  have hB : within (gS rsp m.b.toNat) (bData row m) := by
    unfold bData
    by_cases h6 : m.kind = 6
    · rw [if_pos h6, h.bSp h6]; exact within_data
    · rw [if_neg h6]; exact fun x hx => by simp at hx
  have := nums_in (t := ⟨none, 0, gD rsh m.a.toNat⟩) hp h.kind.1 (numIn_of hR h) hA hB
  have e : numsP s row m = numsA m.toV (entries s).toNat (gD rsh m.a.toNat) (row.getD m.a.toNat nilP).data (bData row m) := by rw [h.aSh]; rfl
  rw [e]
  exact this
/-- the node as a constant -/
theorem const_new {s d : List Int} {sh : List (List Int)} (hs : 0 < entries s) (hd : (d.length : Int) = entries s) (hb : ∀ x ∈ d, bd20 x) : NodeIn (NodeP.toV ⟨2, 0, 0, s, 0, 0, 0, d, []⟩) sh s := by
  refine ⟨?_, ?_, ?_⟩
  · unfold formB
    have e1 : (NodeP.toV ⟨2, 0, 0, s, 0, 0, 0, d, []⟩).kind = 2 := rfl
    rw [e1, if_neg (by decide), if_pos (by decide)]
    simp only [lacksB, NodeP.toV]
    simp [hs, hd]
  · unfold shapeO; rw [if_pos (.inr rfl)]; rfl
  · unfold nearB nearL
    simp only [NodeP.toV, Bool.and_eq_true, List.all_eq_true, decide_eq_true_eq]
    exact ⟨⟨⟨hb, fun x hx => by simp at hx⟩, fun x hx => by simp at hx; subst hx; omega⟩, rfl⟩
theorem fold_in (hL : RowOk l sh sp) (hR : RowOk row rsh rsp) (hst : Std sh sp rsh rsp st) (hn : l[st.length]? = some n) : NodeIn (foldP (gD sh st.length) row (movedP st n)).toV rsh (gD sh st.length) ∧ tight (spanP (foldP (gD sh st.length) row (movedP st n)) (gD sh st.length) rsh rsp) (gS sp st.length) := by
  obtain ⟨hm, ht⟩ := moved_in hL hR hst hn
  unfold foldP
  by_cases hk : knownP row (movedP st n) = true
  · rw [if_pos hk]
    obtain ⟨w1, w2⟩ := numsP_in hR hm (known_in hR hm hk)
    have hspn := (hL.span _ _ hn).2
    have hpos := shape_good (formed_of hm.form) hR.pos hm.shape rfl
    have hne : 1 ≤ (numsP (gD sh st.length) row (movedP st n)).length := by rw [w2]; omega
    refine ⟨const_new hpos (by rw [w2]; omega) (fun x hx => ?_), ?_⟩
    · have := w1 x hx
      unfold tight at ht
      unfold bd20; omega
    · rw [spanP_const rfl]
      refine tight_trans ?_ ht
      exact ⟨(w1 _ (foldI_min_mem hne)).1, (w1 _ (foldI_max_mem hne)).2⟩
  · rw [if_neg hk]; exact ⟨hm, ht⟩
theorem same_place (hR : RowOk row rsh rsp) {p : NodeP} {k : Nat} {s : List Int} (hk : row[k]? = some p) (hm : NodeIn p.toV rsh s) : gD rsh k = s ∧ gS rsp k = spanP p s rsh rsp := by
  have hah := hR.ahead hk
  have hn := hR.node k p hk
  have e : shapeO p.toV (rsh.take k) = shapeO p.toV rsh := by
    have := shape_move (n := p.toV) (sh := rsh) (sh' := rsh.take k) (a := p.a) (b := p.b) (fun h1 h2 => gD_take (hah.a1 h1 h2)) (fun h6 => gD_take (hah.b1 h6))
    exact this
  have h1 := hn.shape
  rw [e, hm.shape, Option.some.injEq] at h1
  refine ⟨h1.symm, ?_⟩
  rw [(hR.span k p hk).1, h1]
theorem step_ok (hL : RowOk l sh sp) (hR : RowOk row rsh rsp) (hst : Std sh sp rsh rsp st) (hn : l[st.length]? = some n) : ∃ rsh' rsp', RowOk (stepP (gD sh st.length) (row, st) n).1 rsh' rsp' ∧ Std sh sp rsh' rsp' (stepP (gD sh st.length) (row, st) n).2 := by
  obtain ⟨hm, ht⟩ := fold_in hL hR hst hn
  have hspn := (hL.span _ _ hn).2
  unfold stepP layP
  simp only
  generalize foldP (gD sh st.length) row (movedP st n) = m at *
  cases hf : findP row m with
  | some k =>
    simp only
    obtain ⟨hk1, hk⟩ := findP_some hf
    have hkl := (List.getElem?_eq_some_iff.1 hk).1
    obtain ⟨q1, q2⟩ := same_place hR hk hm
    refine ⟨rsh, rsp, hR, fun j hj => ?_, fun j hj => ?_, fun j hj => ?_⟩
    all_goals rw [List.length_append, List.length_singleton] at hj
    all_goals
      rcases Nat.lt_or_ge j st.length with hlt | hge
      · rw [show (st ++ [k]).getD j 0 = st.getD j 0 by rw [List.getD_eq_getElem?_getD, List.getD_eq_getElem?_getD, List.getElem?_append_left hlt]]
        first | exact hst.lt j hlt | exact hst.sh j hlt | exact hst.sp j hlt
      · obtain rfl : j = st.length := by omega
        rw [show (st ++ [k]).getD st.length 0 = k by rw [List.getD_eq_getElem?_getD, List.getElem?_append_right (Nat.le_refl _), Nat.sub_self]; rfl]
        first | (rw [hR.lenS]; exact hkl) | exact q1 | (rw [q2]; exact ht)
  | none =>
    simp only
    have hR' := hR.snoc hm (by unfold tight at ht; omega) (by unfold tight at ht; omega)
    have l1 := hR.lenS
    have l2 := hR.lenP
    refine ⟨_, _, hR', fun j hj => ?_, fun j hj => ?_, fun j hj => ?_⟩
    all_goals rw [List.length_append, List.length_singleton] at hj
    all_goals
      rcases Nat.lt_or_ge j st.length with hlt | hge
      · have hlt2 := hst.lt j hlt
        rw [show (st ++ [row.length]).getD j 0 = st.getD j 0 by rw [List.getD_eq_getElem?_getD, List.getD_eq_getElem?_getD, List.getElem?_append_left hlt]]
        first | (rw [List.length_append]; omega) | (rw [gD_left (by omega)]; exact hst.sh j hlt) | (rw [gS_left (by omega)]; exact hst.sp j hlt)
      · obtain rfl : j = st.length := by omega
        rw [show (st ++ [row.length]).getD st.length 0 = row.length by rw [List.getD_eq_getElem?_getD, List.getElem?_append_right (Nat.le_refl _), Nat.sub_self]; rfl]
        first | (rw [List.length_append, List.length_singleton]; omega) | (rw [gD_last (by omega)]) | (rw [gS_last (by omega)]; exact ht)
theorem step_len (s : List Int) (x : List NodeP × List Nat) (n : NodeP) : (stepP s x n).2.length = x.2.length + 1 ∧ (stepP s x n).1.length ≤ x.1.length + 1 ∧ x.1.length ≤ (stepP s x n).1.length := by
  unfold stepP layP
  refine ⟨by simp, ?_, ?_⟩ <;> split <;> simp
end
end Go.Proofs.YtgndjjdeopfdkaaGreat

/- ND -/
namespace Go.Proofs.YtgndjjdeopfdkaaGreat
open Go.SX Go.RowKit
section
variable {row : List NodeP} {rsh : List (List Int)} {rsp : List Sp}
end
end Go.Proofs.YtgndjjdeopfdkaaGreat

/- NF -/
namespace Go.Proofs.YtgndjjdeopfdkaaGreat
open Go.SX Go.RowKit
structure DeskAt (w : World) (b : Nat) (nb : Option Addr) (nc : Nat) (kept : List NodeV) (sb : Option Addr) (sc : Nat) (st : List Int) : Prop where
  c0 : w.cell? ⟨b, 0, none⟩ = some (.slice nb kept.length nc)
  c2 : w.cell? ⟨b, 2, none⟩ = some (.slice sb st.length sc)
  nodes : RowsI w nb 9 (nodeRows kept)
  st : RowsI w sb 1 (ints st)
theorem DeskAt.later {w w' : World} {R : Nat → Prop} {b : Nat} {nb : Option Addr} {nc : Nat} {kept : List NodeV} {sb : Option Addr} {sc : Nat} {st : List Int} (h : DeskAt w b nb nc kept sb sc st) (hb : (baseA w).holds R w') : DeskAt w' b nb nc kept sb sc st :=
  ⟨by rw [cell_same (hb _ (cell_block h.c0)).2]; exact h.c0, by rw [cell_same (hb _ (cell_block h.c2)).2]; exact h.c2, rows_base hb h.nodes, rows_base hb h.st⟩
theorem ro_cell {a : Addr} {S : Asn} {K : SV → Prop} {v : Value} (h : ∀ R w, S.holds R w → w.cell? a = some v) (hK : K (.c v)) : roK a S K := by rw [roK_def]; exact ⟨v, h, hK⟩
section
variable {w : World} {b : Nat} {nb sb : Option Addr} {nc sc : Nat} {kept : List NodeV} {st : List Nat}
end
end Go.Proofs.YtgndjjdeopfdkaaGreat

/- II -/
namespace Go.Proofs.YtgndjjdeopfdkaaGreat
open Go.SX Go.RowKit
def inN (u : IntsV) (lo hi : Int) : NodeV := ⟨1, 0, 0, u, lo, hi, 0, nilI, nilI⟩
def powN (v : IntsV) : NodeV := ⟨8, 0, 0, nilI, 0, 0, 0, v, nilI⟩
def g2 (nb : Option Addr) (nc : Nat) (u v : IntsV) (lo hi : Int) : GraphV := ⟨nb, nc, [inN u lo hi, powN v], 1⟩
theorem bd_near {l : List Int} (h : ∀ x ∈ l, bd20 x) : nearL l = true := List.all_eq_true.2 fun x hx => by have := h x hx; unfold bd20 at this; simpa using this
theorem c_intI : Tryz.prog.cellsOf 3 = 1 := by kernel_rfl
theorem wf_ofI {x : Int} (h : i64 x) : (Lit.int .i64 x).wf = true := by
  simp [Lit.wf, IntKind.min, IntKind.max, IntKind.signed, IntKind.bits]
  exact ⟨h.1, by have := h.2; omega⟩
end Go.Proofs.YtgndjjdeopfdkaaGreat

/- NI -/
namespace Go.Proofs.YtgndjjdeopfdkaaGreat
open Go.SX Go.RowKit
end Go.Proofs.YtgndjjdeopfdkaaGreat

/- NJ -/
namespace Go.Proofs.YtgndjjdeopfdkaaGreat
open Go.SX Go.RowKit
end Go.Proofs.YtgndjjdeopfdkaaGreat

/- NK -/
namespace Go.Proofs.YtgndjjdeopfdkaaGreat
open Go.SX Go.RowKit
inductive Reach (row : List NodeP) : Nat → Nat → Prop
  | refl (k : Nat) : Reach row k k
  | step {k j : Nat} {t : Int} (h : Reach row k j) (ht : t ∈ takesP (row.getD j nilP)) : Reach row k t.toNat
theorem Reach.head {row : List NodeP} {k j : Nat} {t : Int} (ht : t ∈ takesP (row.getD k nilP)) (h : Reach row t.toNat j) : Reach row k j := by
  induction h with
  | refl => exact .step (.refl k) ht
  | step _ h2 ih => exact .step ih h2
def setAdd (s : Nat → Bool) (k : Nat) : Nat → Bool := fun j => decide (j = k) || s j
structure NeedR (row : List NodeP) (k : Nat) (s s' : Nat → Bool) : Prop where
  sub : ∀ j, s j = true → s' j = true
  at_ : s' k = true
  closed : ∀ j, s' j = true → s j = false → ∀ t ∈ takesP (row.getD j nilP), s' t.toNat = true
  reach : ∀ j, s' j = true → s j = false → Reach row k j
theorem NeedR.same {row : List NodeP} {k : Nat} {s : Nat → Bool} (h : s k = true) : NeedR row k s s :=
  ⟨fun _ h => h, h, fun j h1 h2 => (by rw [h1] at h2; cases h2), fun j h1 h2 => (by rw [h1] at h2; cases h2)⟩
theorem setAdd_same (s : Nat → Bool) (k : Nat) : setAdd s k k = true := by simp [setAdd]
theorem setAdd_of {s : Nat → Bool} {k j : Nat} (h : setAdd s k j = true) (hj : s j = false) : j = k := by
  unfold setAdd at h; rw [hj] at h; simpa using h
theorem NeedR.none {row : List NodeP} {k : Nat} {s : Nat → Bool} (h : takesP (row.getD k nilP) = []) : NeedR row k s (setAdd s k) :=
  ⟨fun j h => by unfold setAdd; rw [h]; simp, setAdd_same s k, fun j h1 h2 t ht => (by rw [setAdd_of h1 h2, h] at ht; cases ht), fun j h1 h2 => (by rw [setAdd_of h1 h2]; exact .refl k)⟩
theorem sub_add {s s1 : Nat → Bool} {k : Nat} (h : ∀ j, setAdd s k j = true → s1 j = true) : (∀ j, s j = true → s1 j = true) ∧ s1 k = true :=
  ⟨fun j hj => h j (by unfold setAdd; rw [hj]; simp), h k (setAdd_same s k)⟩
theorem NeedR.one {row : List NodeP} {k : Nat} {a : Int} {s s1 : Nat → Bool} (h : takesP (row.getD k nilP) = [a]) (h1 : NeedR row a.toNat (setAdd s k) s1) : NeedR row k s s1 := by
  obtain ⟨q1, q2⟩ := sub_add h1.sub
  have new : ∀ j, s j = false → j ≠ k → setAdd s k j = false := fun j hj hk => by unfold setAdd; rw [hj]; simp [hk]
  refine ⟨q1, q2, fun j hj hs t ht => ?_, fun j hj hs => ?_⟩
  · by_cases hjk : j = k
    · subst hjk; rw [h] at ht; simp at ht; subst ht; exact h1.at_
    · exact h1.closed j hj (new j hs hjk) t ht
  · by_cases hjk : j = k
    · subst hjk; exact .refl _
    · exact (h1.reach j hj (new j hs hjk)).head (by rw [h]; simp)
theorem NeedR.two {row : List NodeP} {k : Nat} {a b : Int} {s s1 s2 : Nat → Bool} (h : takesP (row.getD k nilP) = [a, b]) (h1 : NeedR row b.toNat (setAdd s k) s1) (h2 : NeedR row a.toNat s1 s2) : NeedR row k s s2 := by
  obtain ⟨q1, q2⟩ := sub_add h1.sub
  have new : ∀ j, s j = false → j ≠ k → setAdd s k j = false := fun j hj hk => by unfold setAdd; rw [hj]; simp [hk]
  refine ⟨fun j hj => h2.sub j (q1 j hj), h2.sub k q2, fun j hj hs t ht => ?_, fun j hj hs => ?_⟩
  · by_cases hjk : j = k
    · subst hjk; rw [h] at ht
      simp only [List.mem_cons, List.not_mem_nil, or_false] at ht
      rcases ht with rfl | rfl
      · exact h2.at_
      · exact h2.sub _ h1.at_
    · cases h3 : s1 j with
      | true => exact h2.sub _ (h1.closed j h3 (new j hs hjk) t ht)
      | false => exact h2.closed j hj h3 t ht
  · by_cases hjk : j = k
    · subst hjk; exact .refl _
    · cases h3 : s1 j with
      | true => exact (h1.reach j h3 (new j hs hjk)).head (by rw [h]; simp)
      | false => exact (h2.reach j hj h3).head (by rw [h]; simp)
theorem DeskAt.rest {w w' : World} {R : Nat → Prop} {b r : Nat} {m : Int → Option Value} {nb : Option Addr} {nc : Nat} {kept : List NodeV} {sb : Option Addr} {sc : Nat} {st : List Int} (h : DeskAt w b nb nc kept sb sc st) (hm : mapHolds r m w) (hr : (restF w (fun x => x = r)).holds R w') : DeskAt w' b nb nc kept sb sc st :=
  ⟨cell_map hm h.c0 hr, cell_map hm h.c2 hr, rows_map hm h.nodes hr, rows_map hm h.st hr⟩
end Go.Proofs.YtgndjjdeopfdkaaGreat

/- NL -/
namespace Go.Proofs.YtgndjjdeopfdkaaGreat
open Go.SX Go.RowKit
end Go.Proofs.YtgndjjdeopfdkaaGreat

/- NM -/
namespace Go.Proofs.YtgndjjdeopfdkaaGreat
open Go.SX Go.RowKit
/-- the row as far as it has come -/
structure TidyAt (l : List NodeP) (sh : List (List Int)) (sp : List Sp) (i : Nat) (row : List NodeP) (st : List Nat) : Prop where
  rest : tidyL (l.drop i) (sh.drop i) (row, st) = tidyL l sh ([], [])
  len : st.length = i
  few : row.length ≤ i
  ok : ∃ rsh rsp, RowOk row rsh rsp ∧ Std sh sp rsh rsp st
theorem TidyAt.step {l : List NodeP} {sh : List (List Int)} {sp : List Sp} {i : Nat} {row : List NodeP} {st : List Nat} (hL : RowOk l sh sp) (h : TidyAt l sh sp i row st) {n : NodeP} (hn : l[i]? = some n) : TidyAt l sh sp (i + 1) (stepP (gD sh i) (row, st) n).1 (stepP (gD sh i) (row, st) n).2 := by
  obtain ⟨h1, rfl, h3, rsh, rsp, hR, hS⟩ := h
  obtain ⟨rsh', rsp', h5, h6⟩ := step_ok hL hR hS hn
  have hil := (List.getElem?_eq_some_iff.1 hn).1
  obtain ⟨s1, s2, _⟩ := step_len (gD sh st.length) (row, st) n
  simp only at s1 s2
  refine ⟨?_, s1, by omega, rsh', rsp', h5, h6⟩
  rw [← h1, List.drop_eq_getElem_cons hil, List.drop_eq_getElem_cons (l := sh) (i := st.length) (by rw [hL.lenS]; exact hil)]
  have e1 : l[st.length] = n := by rw [List.getElem?_eq_getElem hil] at hn; simpa using hn
  have e2 : sh[st.length]'(by rw [hL.lenS]; exact hil) = gD sh st.length := by unfold gD; rw [List.getD_eq_getElem?_getD, List.getElem?_eq_getElem (by rw [hL.lenS]; exact hil)]; rfl
  rw [e1, e2]
  rfl
theorem TidyAt.done {l : List NodeP} {sh : List (List Int)} {sp : List Sp} {row : List NodeP} {st : List Nat} (h : TidyAt l sh sp l.length row st) : tidyL l sh ([], []) = (row, st) := by
  rw [← h.rest, List.drop_length]; rfl
end Go.Proofs.YtgndjjdeopfdkaaGreat

/- IJ -/
namespace Go.Proofs.YtgndjjdeopfdkaaGreat
open Go.SX Go.RowKit
theorem freeze_intsI {w0 : World} {i n : Nat} (xs : List Int) {R0 : List (List Value)} {T : TypeId} {H : Heap} {S : Asn} {nx : Nat} {K : SV → Heap → Asn → Nat → Prop} (hN : ∀ R w, S.holds R w → (baseA w0).holds R w) (he : R0 = ints xs) (hn : n = xs.length) (hf : ∀ x ∈ xs, i64 x) (hl : xs.length ≤ 1000000) (h : ∀ u : IntsV, u.xs = xs → u.sane → K (.c u.val) H (S.and ((intsA u).past w0.heap.size)) nx) : ownK (.os i n) ((i, .rows R0 1 T) :: H) S nx K := by
  subst he hn
  exact own_freeze w0.heap.size (fun R w hS b hb => (hN R w hS b hb).1) (fun l hc => h ⟨l.base, l.cap, xs⟩ rfl ⟨hf, by simpa [ints_length] using hc, hl⟩)
theorem freeze_nodesI {w0 : World} {i n : Nat} (l : List NodeV) {R0 : List (List Value)} {T : TypeId} {H : Heap} {S : Asn} {nx : Nat} {K : SV → Heap → Asn → Nat → Prop} (hN : ∀ R w, S.holds R w → (baseA w0).holds R w) (he : R0 = nodeRows l) (hn : n = l.length) (h : ∀ base cap, K (.c (.slice base l.length cap)) H (S.and ((rowsA base 9 (nodeRows l)).past w0.heap.size)) nx) : ownK (.os i n) ((i, .rows R0 9 T) :: H) S nx K := by
  subst he hn
  exact own_freeze w0.heap.size (fun R w hS b hb => (hN R w hS b hb).1) (fun lc _ => h lc.base lc.cap)
theorem few_i64 {xs : List Int} (h : (xs.all fun x => decide (-1000000 ≤ x ∧ x ≤ 1000000)) = true) : ∀ x ∈ xs, i64 x := fun x hx => by
  have := of_decide_eq_true (List.all_eq_true.1 h x hx)
  unfold i64; omega
end Go.Proofs.YtgndjjdeopfdkaaGreat

/- NG -/
namespace Go.Proofs.YtgndjjdeopfdkaaGreat
open Go.SX Go.RowKit
section
variable {w : World} {b : Nat} {nb sb : Option Addr} {nc sc : Nat} {kept : List NodeV} {st : List Int}
end
end Go.Proofs.YtgndjjdeopfdkaaGreat

/- NH -/
namespace Go.Proofs.YtgndjjdeopfdkaaGreat
open Go.SX Go.RowKit
theorem own_eq {i n m k : Nat} {xs ys : List (List Value)} {T : TypeId} {H : Heap} {S : Asn} {nx : Nat} {K : SV → Heap → Asn → Nat → Prop} (h : K (.os i m) ((i, .rows ys k T) :: H) S nx) (e : xs = ys) (en : n = m) : ownK (.os i n) ((i, .rows xs k T) :: H) S nx K := by subst e en; exact own_keep h
section
variable {w : World} {b : Nat} {nb sb : Option Addr} {nc sc : Nat} {kept : List NodeV} {st : List Int} {rsh : List (List Int)} {rsp : List Sp} {s : List Int}
end
end Go.Proofs.YtgndjjdeopfdkaaGreat

/- NN -/
namespace Go.Proofs.YtgndjjdeopfdkaaGreat
abbrev dtNN1 : Go.SX.DT := (.take 0 (.take 1 (.take 2 (.take 3 (.take 4 (.take 5 (.take 6 (.one 7 (.one 8 (.one 9 (.one 10 (.take 11 (.one 12 (.done))))))))))))))
open Go.SX Go.RowKit
structure NodeV.saneN (n : NodeV) : Prop where
  shape : n.shape.sane
  data : n.data.sane
  bias : n.bias.sane
  kindFits : i64 n.kind
  aFits : i64 n.a
  bFits : i64 n.b
  loFits : i64 n.lo
  hiFits : i64 n.hi
  sizeFits : i64 n.size
theorem NodeV.ok.saneN {w : World} {n : NodeV} (h : n.ok w) : n.saneN := ⟨h.shape.sane, h.data.sane, h.bias.sane, h.kindFits, h.aFits, h.bFits, h.loFits, h.hiFits, h.sizeFits⟩
theorem index_call {P : Program} {f g : FuncId} {u v : Value} {w : World} {Q : Ending → World → Prop} {c : Nat} (e : v = .pointer (some ⟨c, 0, none⟩)) (h : Calls P f #[u, .func (.func g) #[] #[.pointer (some ⟨c, 0, none⟩)]] w Q) : Calls P f #[u, .func (.func g) #[] #[v]] w Q := e ▸ h
end Go.Proofs.YtgndjjdeopfdkaaGreat

/- QB -/
namespace Go.Proofs.YtgndjjdeopfdkaaGreat
open Go.SX Go.RowKit
theorem ro_intq {a : Addr} {j : Nat} {S : Asn} {xs : List Int} {v : Int} {K : SV → Prop} (hx : ∀ R w, S.holds R w → RowsI w (some a) 1 (ints xs)) (hj : j < xs.length) (e : xs.getD j 0 = v) (h : K (.c (.int .i64 v))) : roK (a.add (j * 1)) S K := by
  subst e; exact ro_int hx hj h
structure InpV where
  lo : Int
  hi : Int
  slots : IntsV
def InpV.cells (x : InpV) : List Value := [.int .i64 x.lo, .int .i64 x.hi, x.slots.val]
def InpV.pl (x : InpV) : InpP := ⟨x.lo, x.hi, x.slots.xs⟩
structure LowV where
  inputs : List InpV
  plains : List IntsV
  code : List InsP
def LowV.pl (s : LowV) : LowP := ⟨s.inputs.map InpV.pl, s.plains.map IntsV.xs, s.code⟩
def insCells (x : InsP) : List Value := [.int .i64 x.op, .int .i64 x.to_, .int .i64 x.a, .int .i64 x.b, .int .i64 x.k]
def insRows (l : List InsP) : List (List Value) := l.map insCells
def inpRows (l : List InpV) : List (List Value) := l.map InpV.cells
theorem insRows_length (l : List InsP) : (insRows l).length = l.length := by simp [insRows]
theorem inpRows_length (l : List InpV) : (inpRows l).length = l.length := by simp [inpRows]
theorem ins_snoc (l : List InsP) (x : InsP) : List.take l.length (insRows l) ++ [insCells x] = insRows (l ++ [x]) := by
  rw [List.take_of_length_le (by rw [insRows_length]; exact Nat.le_refl _)]; simp [insRows]
theorem inp_snoc (l : List InpV) (x : InpV) : List.take l.length (inpRows l) ++ [x.cells] = inpRows (l ++ [x]) := by
  rw [List.take_of_length_le (by rw [inpRows_length]; exact Nat.le_refl _)]; simp [inpRows]
theorem sh_snoc (l : List IntsV) (x : IntsV) : List.take l.length (shRows l) ++ [[x.val]] = shRows (l ++ [x]) := by
  rw [List.take_of_length_le (by rw [shRows_length]; exact Nat.le_refl _)]; simp [shRows]
structure LowC where
  slots : Nat
  giant : Bool
  shapes : ShapesV
  spots : ShapesV
def lowBox (c : LowC) (s : LowV) (nv : Nat) : List SV := [.c (.int .i64 c.slots), .os 2 s.inputs.length, .os 3 s.plains.length, .os 4 s.code.length, .c (.int .i64 0), .c (.slice none 0 0), .c (.bool c.giant), .c c.shapes.val, .c c.spots.val, .os 1 nv]
abbrev lowH (c : LowC) (s : LowV) (val : List Int) : Heap := [(0, .box (lowBox c s val.length) 71), (1, .rows (ints val) 1 3), (2, .rows (inpRows s.inputs) 3 92), (3, .rows (shRows s.plains) 1 32), (4, .rows (insRows s.code) 5 43)]
def layV (s : LowV) (op a b k : Int) : LowV := ⟨s.inputs, s.plains, s.code ++ [InsP.mk op s.code.length a b k]⟩
/-- the data of the plain rows -/
def intsL (l : List IntsV) : Asn where
  holds R w := ∀ u ∈ l, (intsA u).holds R w
  stable := fun hR hw h u hu => (intsA u).stable hR hw (h u hu)
theorem intsL_snoc {l : List IntsV} {u : IntsV} {R : Nat → Prop} {w : World} (h : (intsL l).holds R w) (hu : (intsA u).holds R w) : (intsL (l ++ [u])).holds R w := fun v hv => by
  rcases List.mem_append.1 hv with hv | hv
  · exact h v hv
  · rw [List.mem_singleton.1 hv]; exact hu
abbrev LowPost {α : Type} (w : World) (ρ : Nat → SX.Loc) (F : Nat → Prop) (val : α → SV) (H1 : α → Heap) (D : α → Asn) (p : α → Prop) := ObjPost w ρ F 2 5 val H1 D p
set_option maxRecDepth 20000 in
theorem low_lay (c : LowC) (s : LowV) (vl : List Int) (op a b k : Int) (hl : s.code.length ≤ 1000000) (w : World) (ρ : Nat → SX.Loc) (F : Nat → Prop) (h : ObjIn w ρ F 2 5 (lowH c s vl) trueA) :
    Calls Tryz.prog 68 (SV.rfs ρ [.lp 0 0 0 0, .c (.int .i64 op), .c (.int .i64 a), .c (.int .i64 b), .c (.int .i64 k)]).toArray w (LowPost w ρ F (fun _ : Unit => .c (.int .i64 s.code.length)) (fun _ => lowH c (layV s op a b k) vl) (fun _ => trueA) (fun _ => True)) := by
  refine calls_of tab tabOk Tryz.func68 rfl rfl rfl (pinL 2 ρ) ρ [.lp 0 0 0 0, .c (.int .i64 op), .c (.int .i64 a), .c (.int .i64 b), .c (.int .i64 k)] (lowH c s vl) (trueA.and (restF w F)) 5 rfl rfl (by show 5 ≤ _; decide) h.abs ?_
  
  (repeat' ((conv => whnf) <;> first | (show leK _ _ _; (refine le_of (by rw [insRows_length]; exact Nat.le_refl _) ?_)) | (show roomK _ _ _; (refine room_of (by show (s.code.length + 1) * 40 ≤ 140737488355328; omega) ?_)) | (show ownK _ ((_, .rows (List.take s.code.length _ ++ _) _ _) :: _) _ _ _; refine own_eq (ys := insRows (s.code ++ [InsP.mk op s.code.length a b k])) (m := (s.code ++ [InsP.mk op s.code.length a b k]).length) ?_ (ins_snoc s.code (InsP.mk op s.code.length a b k)) (by show s.code.length + 1 = _; rw [List.length_append]; rfl)) | (show Wp _ _ _ _ _ _ _; refine Wp.go tabOk rfl ?_) | (show @cmpK _ _ _; (first | refine cmpY ?_ | refine cmpN ?_ | (refine cmp_both ?_ ?_ <;> intro _))) | (show wrapK _ _ _; refine wrapA ?_) | (show leK _ _ _; refine leA ?_) | (show roomK _ _ _; refine roomA ?_) | (show ltK _ _ _; refine ltA ?_) | (show _ ∧ _; refine ⟨?_, ?_⟩) | (show keepK _ _ _ _ _; refine keepA ?_) | refine own_keep ?_ | refine ap_old ?_))
  all_goals (conv => whnf)
  all_goals exact obj_end _ _ _ _ () [(4, some 6)] trivial (by decide) rfl rfl rfl rfl ⟨(by repeat (first | exact List.mem_cons_self | apply List.mem_cons_of_mem)), (by repeat (first | exact List.mem_cons_self | apply List.mem_cons_of_mem)), (by repeat (first | exact List.mem_cons_self | apply List.mem_cons_of_mem)), (by repeat (first | exact List.mem_cons_self | apply List.mem_cons_of_mem)), (by repeat (first | exact List.mem_cons_self | apply List.mem_cons_of_mem)), trivial⟩ (fun R w' h => ⟨h.2, trivial⟩)
end Go.Proofs.YtgndjjdeopfdkaaGreat

/- QC -/
namespace Go.Proofs.YtgndjjdeopfdkaaGreat
open Go.SX Go.RowKit
theorem plainEq_any (w : World) (p row : IntsV) (c : Nat) (hp : p.ok w) (hr : row.ok w) (hc : w.cell? ⟨c, 0, none⟩ = some row.val) : Calls Tryz.prog 156 #[p.val, .pointer (some ⟨c, 0, none⟩)] w fun e w' => e = .returned (.bool (decide (p.xs = row.xs))) ∧ Ext w w' := by
  refine calls_of tab tabOk Tryz.func156 rfl rfl rfl [] (fun _ => ⟨none, 0⟩) [.c p.val, .c (.pointer (some ⟨c, 0, none⟩))] [] (baseA w) 0 rfl rfl (by show 2 ≤ _; decide) (abs_base w) ?_
  (repeat' ((conv => whnf) <;> first | (show roK _ _ _; (refine ro_cell (fun R w' h => by rw [cell_same (h _ (cell_block hc)).2]; exact hc) ?_)) | (show callK _ 62 _ _ _ _ _; refine call_pure (f := 62) Tryz.call62 (.bool (decide (p.xs = row.xs))) (fun ρ w' hw => equal_any w' p row (holds_of_abs hw fun R h => hp.later h) (holds_of_abs hw fun R h => hr.later h)) ?_) | (show Wp _ _ _ _ _ _ _; refine Wp.go tabOk rfl ?_) | (show @cmpK _ _ _; (first | refine cmpY ?_ | refine cmpN ?_ | (refine cmp_both ?_ ?_ <;> intro _))) | (show wrapK _ _ _; refine wrapA ?_) | (show leK _ _ _; refine leA ?_) | (show roomK _ _ _; refine roomA ?_) | (show ltK _ _ _; refine ltA ?_) | (show _ ∧ _; refine ⟨?_, ?_⟩) | (show keepK _ _ _ _ _; refine keepA ?_) | refine own_keep ?_ | refine ap_old ?_))
  all_goals (conv => whnf)
  all_goals exact ends_bool (fun _ _ h => h) rfl rfl
def idxZ (r : List Int) (l : List (List Int)) : Int := match idxR r l 0 with | some k => k | none => -1
theorem idxR_step {r x : List Int} {l : List (List Int)} {k : Nat} : idxR r (x :: l) k = if x = r then some k else idxR r l (k + 1) := rfl
set_option maxRecDepth 20000 in
theorem indexRow_any (w : World) (row : IntsV) (c : Nat) (hr : row.ok w) (hc : w.cell? ⟨c, 0, none⟩ = some row.val) (nb : Option Addr) (nc : Nat) (l : List IntsV) (hl : RowsI w nb 1 (shRows l)) (ho : ∀ u ∈ l, u.ok w) (hfew : l.length ≤ 1000000) :
    Calls Tryz.prog 154 #[.slice nb l.length nc, .func (.func 156) #[] #[.pointer (some ⟨c, 0, none⟩)]] w fun e w' => e = .returned (.int .i64 (idxZ row.xs (l.map IntsV.xs))) ∧ Ext w w' := by
  refine calls_of tab tabOk Tryz.func154 rfl rfl rfl [] (fun _ => ⟨none, 0⟩) [.c (.slice nb l.length nc), .c (.func (.func 156) #[] #[.pointer (some ⟨c, 0, none⟩)])] [] (baseA w) 0 rfl rfl (by show 2 ≤ _; decide) (abs_base w) ?_
  (repeat' ((conv => whnf) <;> first | (show Wp _ _ _ _ _ _ _; refine Wp.go tabOk rfl ?_) | (show @cmpK _ _ _; (first | refine cmpY ?_ | refine cmpN ?_ | (refine cmp_both ?_ ?_ <;> intro _))) | (show wrapK _ _ _; refine wrapA ?_) | (show leK _ _ _; refine leA ?_) | (show roomK _ _ _; refine roomA ?_) | (show ltK _ _ _; refine ltA ?_) | (show _ ∧ _; refine ⟨?_, ?_⟩) | (show keepK _ _ _ _ _; refine keepA ?_) | refine own_keep ?_ | refine ap_old ?_))
  refine Wp.loop (σ := Nat) 0 (fun k => [(0, .c (.slice nb l.length nc)), (1, .c (.func (.func 156) #[] #[.pointer (some ⟨c, 0, none⟩)])), (7, .c (.int .i64 l.length)), (8, .c (.int .i64 k))]) (fun _ => []) (fun _ => baseA w)
    (fun k => k ≤ l.length ∧ idxR row.xs ((l.drop k).map IntsV.xs) k = idxR row.xs (l.map IntsV.xs) 0) (fun k => l.length - k) 0 [] (by decide) (fun s => ⟨rfl, rfl⟩) ⟨by simp, rfl⟩ ⟨rfl, ⟨rfl, rfl, rfl, rfl, trivial⟩, trivial, fun R w' h => h⟩ ?_
  rintro k ⟨hkl, he⟩
  by_cases hlt : k < l.length
  · obtain ⟨a, ha⟩ : ∃ a, nb = some a := base_some (j := k) hl (by rw [shRows_length]; omega)
    rw [List.drop_eq_getElem_cons hlt, List.map_cons, idxR_step] at he
    have hrow := shRows_get hlt
    have hxo := ho _ (List.getElem_mem hlt)
    generalize l[k] = x at *
    by_cases hs : x.xs = row.xs
    · rw [if_pos hs] at he
      (repeat' ((conv => whnf) <;> first | (show idxK _ _ _ _ _; refine idx_of a k ha rfl hlt ?_) | (show roK _ _ _; (refine ro_row0 (fun R w' h => by rw [← ha]; exact rows_base h hl) _ _ hrow rfl ?_)) | (show callK _ 156 _ _ _ _ _; (refine call_pure (f := 156) Tryz.call156 (.bool true) (fun ρ w' hw => by have := plainEq_any w' x row c (holds_of_abs hw fun R h => hxo.later h) (holds_of_abs hw fun R h => hr.later h) (holds_of_abs hw fun R h => by rw [cell_same (h _ (cell_block hc)).2]; exact hc); rw [decide_eq_true hs] at this; exact this) ?_)) | (show Wp _ _ _ _ _ _ _; refine Wp.go tabOk rfl ?_) | (show @cmpK _ _ _; (first | refine cmpY ?_ | refine cmpN ?_ | (refine cmp_both ?_ ?_ <;> intro _))) | (show wrapK _ _ _; refine wrapA ?_) | (show leK _ _ _; refine leA ?_) | (show roomK _ _ _; refine roomA ?_) | (show ltK _ _ _; refine ltA ?_) | (show _ ∧ _; refine ⟨?_, ?_⟩) | (show keepK _ _ _ _ _; refine keepA ?_) | refine own_keep ?_ | refine ap_old ?_))
      all_goals (conv => whnf)
      all_goals exact ends_of (fun _ _ h => h) (fun _ => by unfold idxZ; rw [← he]; rfl) rfl
    · rw [if_neg hs] at he
      (repeat' ((conv => whnf) <;> first | (show idxK _ _ _ _ _; refine idx_of a k ha rfl hlt ?_) | (show roK _ _ _; (refine ro_row0 (fun R w' h => by rw [← ha]; exact rows_base h hl) _ _ hrow rfl ?_)) | (show callK _ 156 _ _ _ _ _; (refine call_pure (f := 156) Tryz.call156 (.bool false) (fun ρ w' hw => by have := plainEq_any w' x row c (holds_of_abs hw fun R h => hxo.later h) (holds_of_abs hw fun R h => hr.later h) (holds_of_abs hw fun R h => by rw [cell_same (h _ (cell_block hc)).2]; exact hc); rw [decide_eq_false hs] at this; exact this) ?_)) | (show Wp _ _ _ _ _ _ _; refine Wp.go tabOk rfl ?_) | (show @cmpK _ _ _; (first | refine cmpY ?_ | refine cmpN ?_ | (refine cmp_both ?_ ?_ <;> intro _))) | (show wrapK _ _ _; refine wrapA ?_) | (show leK _ _ _; refine leA ?_) | (show roomK _ _ _; refine roomA ?_) | (show ltK _ _ _; refine ltA ?_) | (show _ ∧ _; refine ⟨?_, ?_⟩) | (show keepK _ _ _ _ _; refine keepA ?_) | refine own_keep ?_ | refine ap_old ?_))
      all_goals (conv => whnf)
      all_goals exact ⟨k + 1, [], ⟨hlt, he⟩, by omega, rfl, ⟨rfl, rfl, rfl, rfl, trivial⟩, trivial, fun R w' h => h⟩
  · rw [List.drop_of_length_le (by omega)] at he
    (repeat' ((conv => whnf) <;> first | (show Wp _ _ _ _ _ _ _; refine Wp.go tabOk rfl ?_) | (show @cmpK _ _ _; (first | refine cmpY ?_ | refine cmpN ?_ | (refine cmp_both ?_ ?_ <;> intro _))) | (show wrapK _ _ _; refine wrapA ?_) | (show leK _ _ _; refine leA ?_) | (show roomK _ _ _; refine roomA ?_) | (show ltK _ _ _; refine ltA ?_) | (show _ ∧ _; refine ⟨?_, ?_⟩) | (show keepK _ _ _ _ _; refine keepA ?_) | refine own_keep ?_ | refine ap_old ?_))
    conv => whnf
    exact ends_of (fun _ _ h => h) (fun _ => by unfold idxZ; rw [← he]; rfl) rfl
def plainV (s : LowV) (u : IntsV) : LowV × Int := match idxR u.xs (s.plains.map IntsV.xs) 0 with
  | some k => (s, k)
  | none => (⟨s.inputs, s.plains ++ [u], s.code⟩, s.plains.length)
theorem plainV_pl (s : LowV) (u : IntsV) : ((plainV s u).1.pl, (plainV s u).2) = lowPlain s.pl u.xs := by
  unfold plainV lowPlain
  have e : s.pl.plains = s.plains.map IntsV.xs := rfl
  rw [e]
  cases idxR u.xs (s.plains.map IntsV.xs) 0 with
  | some k => rfl
  | none =>
    show ((⟨_, _, _⟩ : LowP), _) = ((⟨_, _, _⟩ : LowP), _)
    rw [List.map_append, List.length_map]; rfl
/-- the captured cell of a box of one's own -/
theorem box_cell {B : Base} {ρ : Nat → SX.Loc} {nx : Nat} {H : Heap} {S : Asn} {w : World} {d : Nat} {v : Value} {T : TypeId} (hw : Abs B ρ nx H S w) (hd : (d, Ent.box [.c v] T) ∈ H) : ∃ c, (SV.lp d 0 0 0).rf ρ = .pointer (some ⟨c, 0, none⟩) ∧ w.cell? ⟨c, 0, none⟩ = some v := by
  obtain ⟨R, φ, hwR⟩ := hw
  obtain ⟨b, h1, h2, h3⟩ := hwR.ent _ hd
  simp only at h1
  exact ⟨b, by simp [SV.rf, h1, add_none], by simp [World.cell?, h3, SV.rfs, SV.rf]⟩
set_option maxRecDepth 20000 in
theorem low_plain (c : LowC) (s : LowV) (vl : List Int) (u : IntsV) (hu : u.sane) (hs : ∀ p ∈ s.plains, p.sane) (hl : s.plains.length ≤ 1000000) (w : World) (ρ : Nat → SX.Loc) (F : Nat → Prop) (h : ObjIn w ρ F 2 5 (lowH c s vl) ((intsL s.plains).and (intsA u))) :
    Calls Tryz.prog 130 (SV.rfs ρ [.lp 0 0 0 0, .c u.val]).toArray w (LowPost w ρ F (fun _ : Unit => .c (.int .i64 (plainV s u).2)) (fun _ => lowH c (plainV s u).1 vl) (fun _ => trueA) (fun _ => True)) := by
  have hix : ∀ w' c nb nc, w'.cell? ⟨c, 0, none⟩ = some u.val → RowsI w' nb 1 (shRows s.plains) → (∀ p ∈ s.plains, p.ok w') → u.ok w' → Calls Tryz.prog 154 #[.slice nb s.plains.length nc, .func (.func 156) #[] #[.pointer (some ⟨c, 0, none⟩)]] w' fun e w'' => e = .returned (.int .i64 (idxZ u.xs (s.plains.map IntsV.xs))) ∧ Ext w' w'' := fun w' c nb nc h1 h2 h3 h4 => indexRow_any w' u c h4 h1 nb nc s.plains h2 h3 hl
  refine calls_of tab tabOk Tryz.func130 rfl rfl rfl (pinL 2 ρ) ρ [.lp 0 0 0 0, .c u.val] (lowH c s vl) (((intsL s.plains).and (intsA u)).and (restF w F)) 5 rfl rfl (by show 2 ≤ _; decide) h.abs ?_
  unfold plainV
  cases hf : idxR u.xs (s.plains.map IntsV.xs) 0 with
  | some k =>
    have hz : idxZ u.xs (s.plains.map IntsV.xs) = k := by unfold idxZ; rw [hf]
    rw [hz] at hix
    
    (repeat' ((conv => whnf) <;> first | (show callK _ 154 _ _ _ _ _; (refine call_pure (f := 154) Tryz.call154 (.int .i64 k) (fun ρ w' hw => by obtain ⟨c, e, hc⟩ := box_cell (d := 5) hw (by repeat (first | exact List.mem_cons_self | apply List.mem_cons_of_mem)); exact index_call e (hix w' c (ρ 3).base (ρ 3).cap hc (rows_of_abs hw (by repeat (first | exact List.mem_cons_self | apply List.mem_cons_of_mem))) (holds_of_abs hw fun R h => fun p hp => intsA_ok (hs p hp) (h.1.1 p hp)) (holds_of_abs hw fun R h => intsA_ok hu h.1.2))) ?_)) | (show @cmpK _ _ _; refine cmp_no (by omega) ?_) | (show drawK _ 4 _ _ _ _ _ _; refine draw_tree tabOk mixed [12] _ dtNN1 (by kernel_rfl) (by kernel_rfl) (by kernel_rfl) (List.Sublist.refl _) ?_) | (show Wp _ _ _ _ _ _ _; refine Wp.go tabOk rfl ?_) | (show @cmpK _ _ _; (first | refine cmpY ?_ | refine cmpN ?_ | (refine cmp_both ?_ ?_ <;> intro _))) | (show wrapK _ _ _; refine wrapA ?_) | (show leK _ _ _; refine leA ?_) | (show roomK _ _ _; refine roomA ?_) | (show ltK _ _ _; refine ltA ?_) | (show _ ∧ _; refine ⟨?_, ?_⟩) | (show keepK _ _ _ _ _; refine keepA ?_) | refine own_keep ?_ | refine ap_old ?_))
    all_goals (conv => whnf)
    all_goals exact obj_end _ _ _ _ () [] trivial (by decide) rfl rfl rfl rfl ⟨(by repeat (first | exact List.mem_cons_self | apply List.mem_cons_of_mem)), (by repeat (first | exact List.mem_cons_self | apply List.mem_cons_of_mem)), (by repeat (first | exact List.mem_cons_self | apply List.mem_cons_of_mem)), (by repeat (first | exact List.mem_cons_self | apply List.mem_cons_of_mem)), (by repeat (first | exact List.mem_cons_self | apply List.mem_cons_of_mem)), trivial⟩ (fun R w' h => ⟨h.2, trivial⟩)
  | none =>
    have hz : idxZ u.xs (s.plains.map IntsV.xs) = -1 := by unfold idxZ; rw [hf]
    rw [hz] at hix
    
    (repeat' ((conv => whnf) <;> first | (show callK _ 154 _ _ _ _ _; (refine call_pure (f := 154) Tryz.call154 (.int .i64 (-1)) (fun ρ w' hw => by obtain ⟨c, e, hc⟩ := box_cell (d := 5) hw (by repeat (first | exact List.mem_cons_self | apply List.mem_cons_of_mem)); exact index_call e (hix w' c (ρ 3).base (ρ 3).cap hc (rows_of_abs hw (by repeat (first | exact List.mem_cons_self | apply List.mem_cons_of_mem))) (holds_of_abs hw fun R h => fun p hp => intsA_ok (hs p hp) (h.1.1 p hp)) (holds_of_abs hw fun R h => intsA_ok hu h.1.2))) ?_)) | (show @cmpK _ _ _; refine cmp_yes (by decide) ?_) | (show drawK _ 4 _ _ _ _ _ _; refine draw_tree tabOk mixed [12] _ dtNN1 (by kernel_rfl) (by kernel_rfl) (by kernel_rfl) (List.Sublist.cons_cons _ (List.Sublist.cons_cons _ (List.Sublist.cons_cons _ (List.Sublist.cons_cons _ (List.Sublist.cons _ (List.Sublist.refl _)))))) ?_) | (show keepK _ _ _ _ _; (first | refine keep_of (List.Sublist.cons _ (List.Sublist.cons _ (List.Sublist.refl _))) (fun _ _ h => h) ?_ | refine keep_of (List.Sublist.cons _ (List.Sublist.cons_cons _ (List.Sublist.cons_cons _ (List.Sublist.cons_cons _ (List.Sublist.cons_cons _ (List.Sublist.cons _ (List.Sublist.refl _))))))) (fun _ _ h => h) ?_ | refine keep_of (List.Sublist.refl _) (fun _ _ h => h) ?_)) | (show leK _ _ _; (refine le_of (by rw [shRows_length]; exact Nat.le_refl _) ?_)) | (show roomK _ _ _; (refine room_of (by show (s.plains.length + 1) * 24 ≤ 140737488355328; omega) ?_)) | (show ownK _ ((_, .rows (List.take s.plains.length _ ++ _) _ _) :: _) _ _ _; refine own_eq (ys := shRows (s.plains ++ [u])) (m := (s.plains ++ [u]).length) ?_ (sh_snoc s.plains u) (by show s.plains.length + 1 = _; rw [List.length_append]; rfl)) | (show Wp _ _ _ _ _ _ _; refine Wp.go tabOk rfl ?_) | (show @cmpK _ _ _; (first | refine cmpY ?_ | refine cmpN ?_ | (refine cmp_both ?_ ?_ <;> intro _))) | (show wrapK _ _ _; refine wrapA ?_) | (show leK _ _ _; refine leA ?_) | (show roomK _ _ _; refine roomA ?_) | (show ltK _ _ _; refine ltA ?_) | (show _ ∧ _; refine ⟨?_, ?_⟩) | (show keepK _ _ _ _ _; refine keepA ?_) | refine own_keep ?_ | refine ap_old ?_))
    all_goals (conv => whnf)
    all_goals exact obj_end _ _ _ _ () [(3, some 7)] trivial (by decide) rfl rfl rfl rfl ⟨(by repeat (first | exact List.mem_cons_self | apply List.mem_cons_of_mem)), (by repeat (first | exact List.mem_cons_self | apply List.mem_cons_of_mem)), (by repeat (first | exact List.mem_cons_self | apply List.mem_cons_of_mem)), (by repeat (first | exact List.mem_cons_self | apply List.mem_cons_of_mem)), (by repeat (first | exact List.mem_cons_self | apply List.mem_cons_of_mem)), trivial⟩ (fun R w' h => ⟨h.2, trivial⟩)
end Go.Proofs.YtgndjjdeopfdkaaGreat

/- QD -/
namespace Go.Proofs.YtgndjjdeopfdkaaGreat
open Go.SX Go.RowKit
theorem call_low {cx : Cx} {f : FuncId} {args : List SV} {H : Heap} {S : Asn} {nx : Nat} {K : SV → Heap → Asn → Nat → Prop} {α : Type} (θ : Map) (c : LowC) (s : LowV) (vl : List Int) (A : Asn) (args0 : List SV) (val : α → SV) (s' : α → LowV) (D : α → Asn) (p : α → Prop)
    (hf : ∀ ar w, (callFunc f ar).run cx.P w = .ok (.enter f ar) w) (hm : mapWf 0 θ (lowH c s vl) = true) (hin : heapInto θ H (lowH c s vl))
    (h0 : ∃ j, θ.app 0 = some j) (h1 : ∃ j, θ.app 1 = some j) (ha : args = SV.rens θ.app args0) (hA : ∀ R w, S.holds R w → A.holds R w) (G : Nat → Prop) (hG : ∀ R w, S.holds R w → ∀ b, G b → R b)
    (hc : ∀ w ρ F, ObjIn w ρ F 2 5 (lowH c s vl) A → Calls cx.P f (SV.rfs ρ args0).toArray w (LowPost w ρ F val (fun x => lowH c (s' x) vl) D p))
    (h : ∀ x, p x → K ((val x).ren (backG 2 nx θ)) (lessH θ (lowH c s vl) H ++ renH (backG 2 nx θ) (lowH c (s' x) vl)) (S.and ((D x).off G)) (nx + 5)) : callK cx f args H S nx K := by
  refine call_obj θ 2 5 (lowH c s vl) A args0 val (fun x => lowH c (s' x) vl) D p hf hm rfl hin (fun i hi => ?_) (by decide) ha hA G hG hc h
  have : i = 0 ∨ i = 1 := by omega
  rcases this with rfl | rfl
  · obtain ⟨j, hj⟩ := h0
    exact ⟨j, _, hj, (by repeat (first | exact List.mem_cons_self | apply List.mem_cons_of_mem))⟩
  · obtain ⟨j, hj⟩ := h1
    exact ⟨j, _, hj, (by repeat (first | exact List.mem_cons_self | apply List.mem_cons_of_mem))⟩
theorem freeze_off {i n : Nat} (xs : List Int) {R0 : List (List Value)} {T : TypeId} {H : Heap} {S : Asn} {nx : Nat} {K : SV → Heap → Asn → Nat → Prop} (G : Nat → Prop) (hG : ∀ R w, S.holds R w → ∀ b, G b → R b) (he : R0 = ints xs) (hn : n = xs.length) (hf : ∀ x ∈ xs, i64 x) (hl : xs.length ≤ 1000000) (h : ∀ u : IntsV, u.xs = xs → u.sane → K (.c u.val) H (S.and ((intsA u).off G)) nx) : ownK (.os i n) ((i, .rows R0 1 T) :: H) S nx K := by
  subst he hn
  exact own_off G hG (fun l hc => h ⟨l.base, l.cap, xs⟩ rfl ⟨hf, by simpa [ints_length] using hc, hl⟩)
theorem ints_zero (n : Nat) : List.replicate n [Value.int .i64 0] = ints (List.replicate n 0) := by unfold ints; simp
theorem rep_i64 (n : Nat) : ∀ x ∈ List.replicate n (0 : Int), i64 x := fun x hx => by
  rw [(List.mem_replicate.1 hx).2]; unfold i64; omega
def zeroV (s : LowV) (u : IntsV) (x : Int) : LowV := layV (plainV s u).1 5 x 0 (plainV s u).2
theorem plainV_code (s : LowV) (u : IntsV) : (plainV s u).1.code = s.code := by
  unfold plainV; split <;> rfl
set_option maxRecDepth 20000 in
set_option maxHeartbeats 1000000 in
theorem low_zero (c : LowC) (s : LowV) (vl : List Int) (x : Int) (hn : c.slots ≤ 4096) (hs : ∀ p ∈ s.plains, p.sane) (hl : s.plains.length ≤ 1000000) (hcl : s.code.length ≤ 1000000) (w : World) (ρ : Nat → SX.Loc) (F : Nat → Prop) (h : ObjIn w ρ F 2 5 (lowH c s vl) (intsL s.plains)) :
    Calls Tryz.prog 74 (SV.rfs ρ [.lp 0 0 0 0, .c (.int .i64 x)]).toArray w (LowPost w ρ F (fun _ : IntsV => .c (.int .i64 s.code.length)) (fun u => lowH c (zeroV s u x) vl) (fun u => intsA u) (fun u => u.xs = List.replicate c.slots 0 ∧ u.sane)) := by
  refine calls_of tab tabOk Tryz.func74 rfl rfl rfl (pinL 2 ρ) ρ [.lp 0 0 0 0, .c (.int .i64 x)] (lowH c s vl) ((intsL s.plains).and (restF w F)) 5 rfl rfl (by show 2 ≤ _; decide) h.abs ?_
  
  (repeat' ((conv => whnf) <;> first | (show makeK _ _ _ _; (refine make_of c.slots rfl rfl (by show 8 * _ ≤ _; omega) (by omega) ?_)) | (show ownK _ ((_, .rows (List.replicate _ _) _ _) :: _) _ _ _; refine freeze_off (List.replicate c.slots 0) (othF w F) (fun R w' h b hb => (h.2 b hb).1) (ints_zero _) (by simp) (rep_i64 _) (by simp; omega) (fun u hu hus => ?_)) | (show callK _ 130 _ _ _ _ _; (refine call_low [(0, some 0), (1, some 1), (2, some 2), (3, some 3), (4, some 4)] c s vl ((intsL s.plains).and (intsA u)) [.lp 0 0 0 0, .c u.val] _ _ _ _ Tryz.call130 rfl ⟨(by repeat (first | exact List.mem_cons_self | apply List.mem_cons_of_mem)), (by repeat (first | exact List.mem_cons_self | apply List.mem_cons_of_mem)), (by repeat (first | exact List.mem_cons_self | apply List.mem_cons_of_mem)), (by repeat (first | exact List.mem_cons_self | apply List.mem_cons_of_mem)), (by repeat (first | exact List.mem_cons_self | apply List.mem_cons_of_mem)), trivial⟩ ⟨_, rfl⟩ ⟨_, rfl⟩ rfl (fun R w' h => ⟨h.1.1, off_in h.2⟩) (othF w F) (fun R w' h b hb => (h.1.2 b hb).1) (fun w' ρ' F' h' => low_plain c s vl u hus hs hl w' ρ' F' h') (fun _ _ => ?_))) | (show callK _ 68 _ _ _ _ _; (refine call_low [(0, some 0), (1, some 1), (2, some 8), (3, some 9), (4, some 10)] c (plainV s u).1 vl trueA [.lp 0 0 0 0, .c (.int .i64 5), .c (.int .i64 x), .c (.int .i64 0), .c (.int .i64 (plainV s u).2)] _ _ _ _ Tryz.call68 rfl ⟨(by repeat (first | exact List.mem_cons_self | apply List.mem_cons_of_mem)), (by repeat (first | exact List.mem_cons_self | apply List.mem_cons_of_mem)), (by repeat (first | exact List.mem_cons_self | apply List.mem_cons_of_mem)), (by repeat (first | exact List.mem_cons_self | apply List.mem_cons_of_mem)), (by repeat (first | exact List.mem_cons_self | apply List.mem_cons_of_mem)), trivial⟩ ⟨_, rfl⟩ ⟨_, rfl⟩ rfl (fun R w' h => trivial) (othF w F) (fun R w' h b hb => (h.1.1.2 b hb).1) (fun w' ρ' F' h' => low_lay c (plainV s u).1 vl 5 x 0 (plainV s u).2 (by rw [plainV_code]; exact hcl) w' ρ' F' h') (fun _ _ => ?_))) | (show Wp _ _ _ _ _ _ _; refine Wp.go tabOk rfl ?_) | (show @cmpK _ _ _; (first | refine cmpY ?_ | refine cmpN ?_ | (refine cmp_both ?_ ?_ <;> intro _))) | (show wrapK _ _ _; refine wrapA ?_) | (show leK _ _ _; refine leA ?_) | (show roomK _ _ _; refine roomA ?_) | (show ltK _ _ _; refine ltA ?_) | (show _ ∧ _; refine ⟨?_, ?_⟩) | (show keepK _ _ _ _ _; refine keepA ?_) | refine own_keep ?_ | refine ap_old ?_))
  all_goals (conv => whnf)
  all_goals exact obj_end _ _ _ _ u [(2, some 13), (3, some 14), (4, some 15)] ⟨hu, hus⟩ (by decide) (by rw [plainV_code]; rfl) rfl rfl rfl ⟨(by repeat (first | exact List.mem_cons_self | apply List.mem_cons_of_mem)), (by repeat (first | exact List.mem_cons_self | apply List.mem_cons_of_mem)), (by repeat (first | exact List.mem_cons_self | apply List.mem_cons_of_mem)), (by repeat (first | exact List.mem_cons_self | apply List.mem_cons_of_mem)), (by repeat (first | exact List.mem_cons_self | apply List.mem_cons_of_mem)), trivial⟩ (fun R w' h => ⟨h.1.1.1.2, h.1.1.2⟩)
end Go.Proofs.YtgndjjdeopfdkaaGreat

/- QE -/
namespace Go.Proofs.YtgndjjdeopfdkaaGreat
open Go.SX Go.RowKit
theorem putR_length {f : Nat → Int} : ∀ {l : List Int} {e : Nat} {row : List Int}, (putR f l e row).length = row.length
  | [], _, _ => rfl
  | s :: r, e, row => by
    unfold putR
    rw [putR_length, List.length_set]
theorem putR_snoc {f : Nat → Int} {s : Int} : ∀ {l : List Int} {e : Nat} {row : List Int}, putR f (l ++ [s]) e row = (putR f l e row).set s.toNat (f (e + l.length))
  | [], e, row => rfl
  | x :: r, e, row => by
    rw [List.cons_append]
    unfold putR
    rw [putR_snoc, List.length_cons]
    congr 2; omega
theorem putR_i64 {f : Nat → Int} : ∀ {l : List Int} {e : Nat} {row : List Int}, (∀ x ∈ row, i64 x) → (∀ k, k < e + l.length → i64 (f k)) → ∀ x ∈ putR f l e row, i64 x
  | [], _, _, h, _ => h
  | s :: r, e, row, h, hf => by
    unfold putR
    refine putR_i64 (fun x hx => ?_) (fun k hk => hf k (by rw [List.length_cons]; omega))
    rcases List.mem_or_eq_of_mem_set hx with hx | rfl
    · exact h x hx
    · exact hf e (by rw [List.length_cons]; omega)
theorem ints_set {xs : List Int} {j : Nat} {x : Int} (hj : j < xs.length) {K : List (List Value) → Prop} (h : K (ints (xs.set j x))) : rowStoreK (ints xs) j 0 [.int .i64 x] K := by
  refine rowStore_of _ (ints_get hj) (by show 0 + 1 ≤ 1; omega) ?_
  have e : ints (xs.set j x) = (ints xs).set j (setFrom [.int .i64 xs[j]] 0 [.int .i64 x]) := by
    unfold ints
    rw [List.map_set]
    rfl
  rw [← e]; exact h
theorem box_heap {B : Base} {ρ : Nat → SX.Loc} {nx : Nat} {H : Heap} {S : Asn} {w : World} {d : Nat} {cells : List Value} {T : TypeId} (hw : Abs B ρ nx H S w) (hd : (d, Ent.box (cs cells) T) ∈ H) : ∃ b, (SV.lp d 0 0 0).rf ρ = .pointer (some ⟨b, 0, none⟩) ∧ w.heap[b]? = some (.cells cells.toArray T (0, 0)) := by
  obtain ⟨R, φ, hwR⟩ := hw
  obtain ⟨b, h1, h2, h3⟩ := hwR.ent _ hd
  simp only at h1
  rw [rfs_cs] at h3
  exact ⟨b, by simp [SV.rf, h1, add_none], h3⟩
theorem of_call {P : Program} {f : FuncId} {u v : Value} {w : World} {Q : Ending → World → Prop} {b : Nat} (e : v = .pointer (some ⟨b, 0, none⟩)) (h : Calls P f #[u, .pointer (some ⟨b, 0, none⟩)] w Q) : Calls P f #[u, v] w Q := e ▸ h
theorem rens_cs (θ : Nat → Option Nat) : ∀ l : List Value, SV.rens θ (cs l) = cs l
  | [] => rfl
  | v :: r => by
    show SV.ren θ (.c v) :: SV.rens θ (cs r) = .c v :: cs r
    rw [rens_cs θ r]; rfl
theorem bnds_cs (n : Nat) : ∀ l : List Value, SV.bnds n (cs l) = true
  | [] => rfl
  | v :: r => by
    show (SV.bnd n (.c v) && SV.bnds n (cs r)) = true
    rw [bnds_cs n r]; rfl
def spotsA (c : LowC) : Asn := (rowsA c.spots.base 1 (shRows c.spots.l)).and (intsL c.spots.l)
def spreadH (c : LowC) (s : LowV) (vl : List Int) (cells : List Value) (Tb : TypeId) : Heap := lowH c s vl ++ [(5, .box (cs cells) Tb)]
theorem spread_wf (c : LowC) (s : LowV) (vl : List Int) (cells : List Value) (Tb : TypeId) : heapWf 6 (spreadH c s vl cells Tb) = true := by
  simp [spreadH, lowH, lowBox, heapWf, Ent.bnd, SV.bnds, SV.bnd, bnds_cs, Nat.ble]
  decide
theorem spread_wf7 (c : LowC) (s : LowV) (vl : List Int) (cells : List Value) (Tb : TypeId) (xs : List (List Value)) (T : TypeId) : heapWf 7 ((6, .rows xs 1 T) :: spreadH c s vl cells Tb) = true := by
  simp [spreadH, lowH, lowBox, heapWf, Ent.bnd, SV.bnds, SV.bnd, bnds_cs, Nat.ble]
  decide
theorem box_ren {θ : Nat → Option Nat} {cells : List Value} {Tb : TypeId} {i : Nat} {H : Heap} (h : (i, Ent.box (cs cells) Tb) ∈ H) : (i, (Ent.box (cs cells) Tb).ren θ) ∈ H := by
  show (i, Ent.box (SV.rens θ (cs cells)) Tb) ∈ H
  rw [rens_cs]; exact h
theorem fzs_cs (a : Nat) (l : SX.Loc) : ∀ c : List Value, SV.fzs a l (cs c) = cs c
  | [] => rfl
  | v :: r => by
    show SV.fz a l (.c v) :: SV.fzs a l (cs r) = .c v :: cs r
    rw [fzs_cs a l r]; rfl
theorem box_fz {θ : Nat → Option Nat} {a : Nat} {l : SX.Loc} {cells : List Value} {Tb : TypeId} {i : Nat} {H : Heap} (h : (i, Ent.box (SV.fzs a l (cs cells)) Tb) ∈ H) : (i, (Ent.box (cs cells) Tb).ren θ) ∈ H := by
  rw [fzs_cs] at h
  exact box_ren h
set_option maxRecDepth 20000 in
set_option maxHeartbeats 1000000 in
theorem low_spread (c : LowC) (s : LowV) (vl : List Int) (g : FuncId) (cells : List Value) (Tb : TypeId) (i : Nat) (f : Nat → Int) (E : Asn) (sp : IntsV) (hn : c.slots ≤ 4096) (hs : ∀ p ∈ s.plains, p.sane) (hl : s.plains.length ≤ 1000000) (hi : c.spots.l[i]? = some sp) (hsps : sp.sane) (hb : ∀ x ∈ sp.xs, 0 ≤ x ∧ x < c.slots) (hff : ∀ e, e < sp.xs.length → i64 (f e))
    (hg : ∀ ar w, (callFunc g ar).run Tryz.prog w = .ok (.enter g ar) w)
    (hof : ∀ R w' b (e : Nat), e < sp.xs.length → w'.heap[b]? = some (.cells cells.toArray Tb (0, 0)) → E.holds R w' → Calls Tryz.prog g #[.int .i64 e, .pointer (some ⟨b, 0, none⟩)] w' fun en w'' => en = .returned (.int .i64 (f e)) ∧ Ext w' w'')
    (w : World) (ρ : Nat → SX.Loc) (F : Nat → Prop) (h : ObjIn w ρ F 2 6 (spreadH c s vl cells Tb) (((intsL s.plains).and (spotsA c)).and E)) :
    Calls Tryz.prog 69 (SV.rfs ρ [.lp 0 0 0 0, .c (.int .i64 i), .fn (.func g) [] [.lp 5 0 0 0]]).toArray w (ObjPost w ρ F 2 6 (fun u : IntsV => .c (.int .i64 (plainV s u).2)) (fun u => spreadH c (plainV s u).1 vl cells Tb) (fun u => intsA u) (fun u => u.xs = spreadR c.slots sp.xs f ∧ u.sane)) := by
  refine calls_of tab tabOk Tryz.func69 rfl rfl rfl (pinL 2 ρ) ρ [.lp 0 0 0 0, .c (.int .i64 i), .fn (.func g) [] [.lp 5 0 0 0]] (spreadH c s vl cells Tb) ((((intsL s.plains).and (spotsA c)).and E).and (restF w F)) 6 rfl rfl (by show 3 ≤ _; decide) h.abs ?_
  
  have hil := (List.getElem?_eq_some_iff.1 hi).1
  have hrow : (shRows c.spots.l)[i]? = some [sp.val] := by unfold shRows; rw [List.getElem?_map, hi]; rfl
  refine Wp.know (p := ∃ a, c.spots.base = some a) (fun ρ w' hw => holds_of_abs hw fun R h => base_some (j := i) (rowsA_in h.1.1.2.1) (by rw [shRows_length]; exact hil)) ?_
  rintro ⟨sa, hsa⟩
  (repeat' ((conv => whnf) <;> first | (show makeK _ _ _ _; (refine make_of c.slots rfl rfl (by show 8 * _ ≤ _; omega) (by omega) ?_)) | (show idxK _ _ _ _ _; refine idx_of sa i hsa rfl hil ?_) | (show roK _ _ _; (refine ro_row0 (fun R w' h => by rw [← hsa]; exact rowsA_in h.1.1.2.1) _ _ hrow rfl ?_)) | (show Wp _ _ _ _ _ _ _; refine Wp.go tabOk rfl ?_) | (show @cmpK _ _ _; (first | refine cmpY ?_ | refine cmpN ?_ | (refine cmp_both ?_ ?_ <;> intro _))) | (show wrapK _ _ _; refine wrapA ?_) | (show leK _ _ _; refine leA ?_) | (show roomK _ _ _; refine roomA ?_) | (show ltK _ _ _; refine ltA ?_) | (show _ ∧ _; refine ⟨?_, ?_⟩) | (show keepK _ _ _ _ _; refine keepA ?_) | refine own_keep ?_ | refine ap_old ?_))
  refine Wp.loop (σ := Nat) 7 (fun e => [(0, .lp 0 0 0 0), (2, .fn (.func g) [] [.lp 5 0 0 0]), (7, .os 6 c.slots), (22, .c sp.val), (23, .c (.int .i64 sp.xs.length)), (24, .c (.int .i64 e))]) (fun e => (6, .rows (ints (putR f (sp.xs.take e) 0 (List.replicate c.slots 0))) 1 3) :: spreadH c s vl cells Tb) (fun _ => (((intsL s.plains).and (spotsA c)).and E).and (restF w F)) (fun e => e ≤ sp.xs.length) (fun e => sp.xs.length - e) 0 [] (by decide) (fun e => ⟨rfl, spread_wf7 _ _ _ _ _ _ _⟩)
    (Nat.zero_le _) ⟨rfl, ⟨rfl, rfl, rfl, rfl, rfl, rfl, trivial⟩, ⟨?_, (by repeat (first | exact List.mem_cons_self | apply List.mem_cons_of_mem)), (by repeat (first | exact List.mem_cons_self | apply List.mem_cons_of_mem)), (by repeat (first | exact List.mem_cons_self | apply List.mem_cons_of_mem)), (by repeat (first | exact List.mem_cons_self | apply List.mem_cons_of_mem)), (by repeat (first | exact List.mem_cons_self | apply List.mem_cons_of_mem)), box_ren (by repeat (first | exact List.mem_cons_self | apply List.mem_cons_of_mem)), trivial⟩, fun R w' h => h⟩ ?_
  · show (6, Ent.rows (ints (List.replicate c.slots 0)) 1 3) ∈ _
    rw [← ints_zero]
    exact (by repeat (first | exact List.mem_cons_self | apply List.mem_cons_of_mem))
  rintro e he
  have hrl : (putR f (sp.xs.take e) 0 (List.replicate c.slots 0)).length = c.slots := by rw [putR_length, List.length_replicate]
  by_cases hlt : e < sp.xs.length
  · have htk : sp.xs.take (e + 1) = sp.xs.take e ++ [sp.xs[e]] := by rw [List.take_add_one, List.getElem?_eq_getElem hlt]; rfl
    have hsn : putR f (sp.xs.take (e + 1)) 0 (List.replicate c.slots 0) = (putR f (sp.xs.take e) 0 (List.replicate c.slots 0)).set sp.xs[e].toNat (f e) := by
      rw [htk, putR_snoc, List.length_take, Nat.min_eq_left (by omega), Nat.zero_add]
    have hbe := hb _ (List.getElem_mem hlt)
    have hxg : sp.xs.getD e 0 = sp.xs[e] := by rw [List.getD_eq_getElem?_getD, List.getElem?_eq_getElem hlt]; rfl
    have hfew := hsps.few
    generalize sp.xs[e] = z at *
    generalize putR f (sp.xs.take e) 0 (List.replicate c.slots 0) = row at *
    refine Wp.know (p := ∃ a, sp.base = some a) (fun ρ w' hw => holds_of_abs hw fun R h => base_some (j := e) (rowsA_in (h.1.1.2.2 sp (List.mem_of_getElem? hi))) (by rw [ints_length]; exact hlt)) ?_
    rintro ⟨pa, hpa⟩
    (repeat' ((conv => whnf) <;> first | (show idxK _ _ _ _ _; refine idx_of pa e hpa rfl hlt ?_) | (show roK _ _ _; (refine ro_intq (fun R w' h => by rw [← hpa]; exact rowsA_in (h.1.1.2.2 sp (List.mem_of_getElem? hi))) (j := e) hlt hxg ?_)) | (show callK _ g _ _ _ _ _; refine call_pure (f := g) hg (.int .i64 (f e)) (fun ρ w' hw => by obtain ⟨b, eb, hbh⟩ := box_heap (d := 5) hw (by repeat (first | exact List.mem_cons_self | apply List.mem_cons_of_mem)); exact of_call eb (holds_of_abs hw fun R h => hof R w' b e hlt hbh h.1.2)) ?_) | (show idxRowK _ _ _ _ _ _; (refine idxRow_of z.toNat (by omega) (by omega) (by rw [ints_length, hrl]; exact Nat.le_refl _) ?_)) | (show rowStoreK _ _ _ _ _; refine ints_set (by omega) ?_) | (show Wp _ _ _ _ _ _ _; refine Wp.go tabOk rfl ?_) | (show @cmpK _ _ _; (first | refine cmpY ?_ | refine cmpN ?_ | (refine cmp_both ?_ ?_ <;> intro _))) | (show wrapK _ _ _; refine wrapA ?_) | (show leK _ _ _; refine leA ?_) | (show roomK _ _ _; refine roomA ?_) | (show ltK _ _ _; refine ltA ?_) | (show _ ∧ _; refine ⟨?_, ?_⟩) | (show keepK _ _ _ _ _; refine keepA ?_) | refine own_keep ?_ | refine ap_old ?_))
    all_goals (conv => whnf)
    all_goals exact ⟨e + 1, [], hlt, by omega, rfl, ⟨rfl, rfl, rfl, rfl, rfl, rfl, trivial⟩, ⟨by rw [hsn]; exact (by repeat (first | exact List.mem_cons_self | apply List.mem_cons_of_mem)), (by repeat (first | exact List.mem_cons_self | apply List.mem_cons_of_mem)), (by repeat (first | exact List.mem_cons_self | apply List.mem_cons_of_mem)), (by repeat (first | exact List.mem_cons_self | apply List.mem_cons_of_mem)), (by repeat (first | exact List.mem_cons_self | apply List.mem_cons_of_mem)), (by repeat (first | exact List.mem_cons_self | apply List.mem_cons_of_mem)), box_ren (by repeat (first | exact List.mem_cons_self | apply List.mem_cons_of_mem)), trivial⟩, fun R w' h => h⟩
  · obtain rfl : e = sp.xs.length := by omega
    rw [List.take_length] at hrl
    (repeat' ((conv => whnf) <;> first | (show @cmpK _ _ _; (first | refine cmpY ?_ | refine cmpN ?_ | (refine cmp_both ?_ ?_ <;> intro _))) | (show wrapK _ _ _; refine wrapA ?_) | (show leK _ _ _; refine leA ?_) | (show roomK _ _ _; refine roomA ?_) | (show ltK _ _ _; refine ltA ?_) | (show _ ∧ _; refine ⟨?_, ?_⟩) | (show keepK _ _ _ _ _; refine keepA ?_) | refine own_keep ?_ | refine ap_old ?_))
    all_goals (conv => whnf)
    have hi64 : ∀ x ∈ putR f (sp.xs.take sp.xs.length) 0 (List.replicate c.slots 0), i64 x := by
      rw [List.take_length]
      exact putR_i64 (rep_i64 _) (fun k hk => hff k (by omega))
    refine Wp.freezeG 6 (othF w F) (k := 1) (xs := ints (putR f (sp.xs.take sp.xs.length) 0 (List.replicate c.slots 0))) (T := 3) (by repeat (first | exact List.mem_cons_self | apply List.mem_cons_of_mem)) (fun R w' h b hb => (h.2 b hb).1) (fun fl hfl => ?_)
    rw [List.take_length] at hi64 hfl ⊢
    rw [ints_length, hrl] at hfl
    obtain ⟨u, hu⟩ : ∃ u : IntsV, u = ⟨fl.base, fl.cap, putR f sp.xs 0 (List.replicate c.slots 0)⟩ := ⟨_, rfl⟩
    have hux : u.xs = putR f sp.xs 0 (List.replicate c.slots 0) := by rw [hu]
    have hus : u.sane := ⟨by rw [hux]; exact hi64, by rw [hux, hrl, hu]; exact hfl, by rw [hux, hrl]; omega⟩
    have huv : Value.slice fl.base c.slots fl.cap = u.val := by rw [hu]; show _ = Value.slice _ (putR f sp.xs 0 (List.replicate c.slots 0)).length _; rw [hrl]
    have hua : ∀ {R : Nat → Prop} {w' : World}, ((rowsA fl.base 1 (ints (putR f sp.xs 0 (List.replicate c.slots 0)))).off (othF w F)).holds R w' → ((intsA u).off (othF w F)).holds R w' := fun h => by rw [hu]; exact h
    (repeat' ((conv => whnf) <;> first | (show callK _ 130 _ _ _ _ _; (refine call_low [(0, some 0), (1, some 1), (2, some 2), (3, some 3), (4, some 4)] c s vl ((intsL s.plains).and (intsA u)) [.lp 0 0 0 0, .c u.val] _ _ _ _ Tryz.call130 rfl ⟨(by repeat (first | exact List.mem_cons_self | apply List.mem_cons_of_mem)), (by repeat (first | exact List.mem_cons_self | apply List.mem_cons_of_mem)), (by repeat (first | exact List.mem_cons_self | apply List.mem_cons_of_mem)), (by repeat (first | exact List.mem_cons_self | apply List.mem_cons_of_mem)), (by repeat (first | exact List.mem_cons_self | apply List.mem_cons_of_mem)), trivial⟩ ⟨_, rfl⟩ ⟨_, rfl⟩ (by rw [← huv]; rfl) (fun R w' h => ⟨h.1.1.1.1, off_in (hua h.2)⟩) (othF w F) (fun R w' h b hb => (h.1.2 b hb).1) (fun w' ρ' F' h' => low_plain c s vl u hus hs hl w' ρ' F' h') (fun _ _ => ?_))) | (show Wp _ _ _ _ _ _ _; refine Wp.go tabOk rfl ?_) | (show @cmpK _ _ _; (first | refine cmpY ?_ | refine cmpN ?_ | (refine cmp_both ?_ ?_ <;> intro _))) | (show wrapK _ _ _; refine wrapA ?_) | (show leK _ _ _; refine leA ?_) | (show roomK _ _ _; refine roomA ?_) | (show ltK _ _ _; refine ltA ?_) | (show _ ∧ _; refine ⟨?_, ?_⟩) | (show keepK _ _ _ _ _; refine keepA ?_) | refine own_keep ?_ | refine ap_old ?_))
    all_goals (conv => whnf)
    all_goals exact obj_end _ _ _ _ u [(2, some 9), (3, some 10), (4, some 11)] ⟨hux, hus⟩ (by decide) rfl rfl (spread_wf _ _ _ _ _) rfl ⟨(by repeat (first | exact List.mem_cons_self | apply List.mem_cons_of_mem)), (by repeat (first | exact List.mem_cons_self | apply List.mem_cons_of_mem)), (by repeat (first | exact List.mem_cons_self | apply List.mem_cons_of_mem)), (by repeat (first | exact List.mem_cons_self | apply List.mem_cons_of_mem)), (by repeat (first | exact List.mem_cons_self | apply List.mem_cons_of_mem)), box_fz (a := 6) (l := fl) (by repeat (first | exact List.mem_cons_self | apply List.mem_cons_of_mem)), trivial⟩ (fun R w' h => ⟨h.1.1.2, hua h.1.2⟩)
end Go.Proofs.YtgndjjdeopfdkaaGreat

