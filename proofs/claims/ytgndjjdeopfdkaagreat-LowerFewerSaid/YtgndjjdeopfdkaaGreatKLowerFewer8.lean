import Derived.Test.YtgndjjdeopfdkaaGreatKLowerFewer7
/- QL -/
namespace Go.Proofs.YtgndjjdeopfdkaaGreat
abbrev dtQL0 : Go.SX.DT := (.take 0 (.take 1 (.take 2 (.take 3 (.take 5 (.take 6 (.take 7 (.take 8 (.alt 4 (.one 9 (.one 10 (.one 11 (.take 12 (.done))))) (.one 9 (.one 4 (.one 10 (.one 11 (.take 12 (.done)))))))))))))))
abbrev dtQL1 : Go.SX.DT := (.take 0 (.take 1 (.take 2 (.take 3 (.take 5 (.take 6 (.take 7 (.take 8 (.take 4 (.take 9 (.one 10 (.one 11 (.take 12 (.done))))))))))))))
open Go.SX Go.RowKit
theorem info_int : (Tryz.prog.info? 3).map (fun i => i.zero) = some (some (.int .i64 0)) := by kernel_rfl
theorem look_T {H : Heap} {S : Asn} {i r : Nat} {t : Int → Option Int} {k : Int} {K : SV → Prop} {B : Base} {n : Nat} {tb : List (Nat × TI)} (hi : (i, Ent.ext (mapO r (mapT t))) ∈ H) {v : Option Int} (hv : t k = v) (h : K (.c (.tuple #[.int .i64 (v.getD 0), .bool v.isSome]))) : lookK ⟨Tryz.prog, B, n, tb⟩ 161 (.c (.map (some r))) (.c (.int .i64 k)) true H S K := by
  have hz := info_int
  cases ht : Tryz.prog.info? 3 with
  | none => rw [ht] at hz; cases hz
  | some ti =>
    rw [ht] at hz
    refine look_of (z := .int .i64 0) Tryz.underlying161 Tryz.underlying3 ht (by simpa using hz) hi ?_
    have e : (mapT t k).getD (.int .i64 0) = .int .i64 (v.getD 0) ∧ (mapT t k).isSome = v.isSome := by
      unfold mapT
      rw [hv]
      cases v <;> exact ⟨rfl, rfl⟩
    rw [if_pos rfl, e.1, e.2]
    exact h
theorem put_T0 {H : Heap} {S : Asn} {i r : Nat} {x : Int} {K : Heap → Prop} {B : Base} {n : Nat} {tb : List (Nat × TI)} (hi : (i, Ent.ext (mapO r (fun _ => none))) ∈ H) (h : setHK i (.ext (mapO r (mapT (startT x)))) K H) : mapPutK ⟨Tryz.prog, B, n, tb⟩ 161 (.c (.map (some r))) (.c (.int .i64 0)) (.c (.int .i64 x)) H S K :=
  mapPut_of Tryz.underlying161 Tryz.underlying3 hi (by rw [mapT_start]; exact h)
theorem put_T {H : Heap} {S : Asn} {i r : Nat} {t : Int → Option Int} {k v : Int} {K : Heap → Prop} {B : Base} {n : Nat} {tb : List (Nat × TI)} (hi : (i, Ent.ext (mapO r (mapT t))) ∈ H) (h : setHK i (.ext (mapO r (mapT (fun z => if z = k then some v else t z)))) K H) : mapPutK ⟨Tryz.prog, B, n, tb⟩ 161 (.c (.map (some r))) (.c (.int .i64 k)) (.c (.int .i64 v)) H S K :=
  mapPut_of Tryz.underlying161 Tryz.underlying3 hi (by rw [mapT_put]; exact h)
theorem cmp_min {x y z : Int} {K' : Bool → Prop} {Kt : SV → Prop} (hz : z = min x y) (e1 : K' true = mmK false .i64 Kt y []) (e2 : K' false = mmK false .i64 Kt x []) (h : Kt (.c (.int .i64 z))) : cmpK (y < x) K' := by
  refine cmp_both (fun hy => ?_) (fun hy => ?_)
  · rw [e1]; show Kt _; rw [← show z = y by omega]; exact h
  · rw [e2]; show Kt _; rw [← show z = x by omega]; exact h
theorem slice_nil_is {P : Program} {t : TypeId} {ti : TI} (h : mkTI P t = some ti) (hk : ti.kind = 1) {ox oy : Operand} {base : Option Addr} {len cap : Nat} {K : SV → Prop} {b : Bool} (hb : base.isNone = b) (hK : K (.c (.bool b))) :
    pureK P (do eqGuard .eql t ox oy (.slice base len cap) (.slice none 0 0); binOp .eql t (.slice base len cap) (.slice none 0 0)) K := by
  subst hb
  exact slice_nil_eql h hk hK
structure RowV where
  s : LowV
  t : Int → Option Int
  m : Option Int
def RowV.pl (y : RowV) : RowsS := ⟨y.s.pl, y.t, y.m⟩
def sumB (m : Option Int) : List SV := [.lp 0 0 0 0, .c (.int .i64 (m.getD 0)), .c (.bool m.isSome)]
def turnV (s : LowV) (t : Int → Option Int) (x : Int) (i : Nat) : LowV × (Int → Option Int) × Int := match t i with
  | some a => (s, t, a)
  | none => (layV s 8 x 0 i, fun z => if z = i then some (s.code.length : Int) else t z, s.code.length)
def addV (s : LowV) (t : Int → Option Int) (m : Option Int) (v : Int) : RowV := match m with
  | none => ⟨s, t, some v⟩
  | some a => ⟨layV s 3 a v 0, t, some s.code.length⟩
def innerV (x : Int) (y : RowV) (i : Nat) (m : IntsV) : RowV :=
  addV (layV (plainV (turnV y.s y.t x i).1 m).1 5 (turnV y.s y.t x i).2.2 0 (plainV (turnV y.s y.t x i).1 m).2) (turnV y.s y.t x i).2.1 y.m (plainV (turnV y.s y.t x i).1 m).1.code.length
def giantV (base : Nat) (mo : Option Int) (z : RowV) : RowV := match z.m with
  | none => ⟨z.s, z.t, mo⟩
  | some a => if 0 < base then addV (layV z.s 8 a 0 base) z.t mo z.s.code.length else addV z.s z.t mo a
theorem addV_pl (s : LowV) (t : Int → Option Int) (m : Option Int) (v : Int) : (addV s t m v).pl = ⟨(sumAdd s.pl m v).1, t, some (sumAdd s.pl m v).2⟩ := by
  cases m <;> rfl
theorem innerV_pl {n base : Nat} {x : Int} {y : RowV} {i : Nat} {m : IntsV} {dd : List Int} (hm : m.xs = movedR n base dd) (hd : dd ≠ []) : (innerV x y i m).pl = innerS n base x y.pl i dd := by
  have ep : ∀ s : LowV, lowPlain s.pl (movedR n base dd) = ((plainV s m).1.pl, (plainV s m).2) := fun s => by rw [← hm, ← plainV_pl]
  unfold innerV innerS
  rw [if_neg hd, addV_pl]
  have et : turnAt y.pl.s y.pl.t x i = ((turnV y.s y.t x i).1.pl, (turnV y.s y.t x i).2) := by
    unfold turnAt turnV
    show (match y.t i with | some a => _ | none => _) = _
    cases y.t i <;> rfl
  simp only [et, ep, lowLay_pl]
  rfl
theorem giantV_pl {n base : Nat} {x : Int} {y : RowsS} {z : RowV} {ds : List (List Int)} (hz : innerL n base x ds 0 ⟨y.s, y.t, none⟩ = z.pl) : (giantV base y.m z).pl = giantS n base x y ds := by
  unfold giantV giantS
  simp only [hz]
  show _ = (match z.m with | none => _ | some a => _)
  cases z.m with
  | none => rfl
  | some a =>
    show (if 0 < base then _ else _ : RowV).pl = _
    by_cases hb : 0 < base
    · simp only [if_pos hb, addV_pl]; rfl
    · simp only [if_neg hb, addV_pl]; rfl
theorem LowS3.mono {c : LowC} {k k' : Nat} {s : LowV} (h : LowS3 c k s) (hk : k ≤ k') : LowS3 c k' s := ⟨h.ok, Nat.le_trans h.fewP hk, Nat.le_trans h.fewC hk⟩
theorem giantL_end {n g : Nat} {x : Int} {all : List (List Int)} {f base : Nat} {y : RowsS} (h : ¬ base < n) : giantL n g x all f base y = y := by
  cases f with
  | zero => rfl
  | succ f => rw [giantL, if_neg h]
theorem stepG_go {f n g : Nat} (h : g * g < n) (hf : n ≤ g + f) (h1 : 1 ≤ g) : ∃ f', f = f' + 1 ∧ stepG f n g = stepG f' n (2 * g) := by
  have hg : g ≤ g * g := Nat.le_mul_of_pos_right g h1
  obtain ⟨f', rfl⟩ : ∃ f', f = f' + 1 := ⟨f - 1, by omega⟩
  exact ⟨f', rfl, by rw [stepG, if_pos h]⟩
theorem stepG_end {f n g : Nat} (h : ¬ g * g < n) : stepG f n g = g := by
  cases f with
  | zero => rfl
  | succ f => rw [stepG, if_neg h]
theorem sq_small {g n : Nat} (h : g * g < n) (hn : n ≤ 4096) : g < 64 := by
  rcases Nat.lt_or_ge g 64 with h1 | h1
  · exact h1
  · have : 64 * 64 ≤ g * g := Nat.mul_le_mul h1 h1
    omega
theorem cond_split {cx : Cx} {cc : Operand} {a b : Code} {bb : Bool} {env : Env} {H : Heap} {S : Asn} {nx : Nat} {K : Exit → Env → Heap → Asn → Nat → Prop} (hev : ∀ k : SV → Prop, evK cx.n env cc k = k (.c (.bool bb))) (h1 : bb = true → vcC cx a env H S nx K) (h2 : bb = false → vcC cx b env H S nx K) : vcC cx (.cond cc a b) env H S nx K := by
  show evK cx.n env cc _
  rw [hev]
  cases bb
  · exact h2 rfl
  · exact h1 rfl
abbrev rowF (w : World) (F : Nat → Prop) (s0 : LowV) (d : ShapesV) (s : LowV) : Asn := (((intsL s.plains).and ((newL s0.plains s.plains).off (othF w F))).and (diagA d)).and (restF w F)
abbrev rowH6 (c : LowC) (vl : List Int) (r : Nat) (y : RowV) : Heap := (6, .box (sumB y.m) 129) :: (5, .ext (mapO r (mapT y.t))) :: lowG c y.s vl 0 1 7 8 9
abbrev rowH7 (c : LowC) (vl : List Int) (r : Nat) (m : Option Int) (y : RowV) : Heap := (10, .box (sumB y.m) 129) :: (6, .box (sumB m) 129) :: (5, .ext (mapO r (mapT y.t))) :: lowG c y.s vl 0 1 11 12 13
set_option maxRecDepth 20000 in
set_option maxHeartbeats 8000000 in
theorem low_rows (c : LowC) (s : LowV) (vl : List Int) (x : Int) (d : ShapesV) (hN : NodeAt c s vl) (hdl : d.l.length = c.slots) (hdn : DiagN c.slots d) (hds : ∀ u ∈ d.l, u.sane) (hdc : d.l.length ≤ d.cap) (w : World) (ρ : Nat → SX.Loc) (F : Nat → Prop) (h : ObjIn w ρ F 2 5 (lowH c s vl) ((intsL s.plains).and (diagA d))) :
    Calls Tryz.prog 65 (SV.rfs ρ [.lp 0 0 0 0, .c (.int .i64 x), .c d.val]).toArray w (NodePost w ρ F c s vl (lowRows c.slots c.giant s.pl x (d.l.map IntsV.xs))) := by
  have hn1 := hN.slots.1
  have hn2 := hN.slots.2
  refine calls_of tab tabOk Tryz.func65 rfl rfl rfl (pinL 2 ρ) ρ [.lp 0 0 0 0, .c (.int .i64 x), .c d.val] (lowH c s vl) (((intsL s.plains).and (diagA d)).and (restF w F)) 5 rfl rfl (by show 3 ≤ _; decide) h.abs ?_
  
  (repeat' ((conv => whnf) <;> first | (show drawK _ 21 _ _ _ _ _ _; refine draw_tree tabOk mixed [] _ dtQL0 (by kernel_rfl) (by kernel_rfl) (by kernel_rfl) (List.Sublist.refl _) ?_) | (show Wp _ _ _ _ _ _ _; refine Wp.go tabOk rfl ?_) | (show @cmpK _ _ _; (first | refine cmpY ?_ | refine cmpN ?_ | (refine cmp_both ?_ ?_ <;> intro _))) | (show wrapK _ _ _; refine wrapA ?_) | (show leK _ _ _; refine leA ?_) | (show roomK _ _ _; refine roomA ?_) | (show ltK _ _ _; refine ltA ?_) | (show _ ∧ _; refine ⟨?_, ?_⟩) | (show keepK _ _ _ _ _; refine keepA ?_) | refine own_keep ?_ | refine ap_old ?_))
  refine cond_split (fun _ => rfl) (fun hg => ?_) (fun hg => ?_)
  focus
    (repeat' ((conv => whnf) <;> first | (show drawK _ 21 _ _ _ _ _ _; refine draw_tree tabOk mixed [] _ dtQL0 (by kernel_rfl) (by kernel_rfl) (by kernel_rfl) (List.Sublist.refl _) ?_) | (show Wp _ _ _ _ _ _ _; refine Wp.go tabOk rfl ?_) | (show @cmpK _ _ _; (first | refine cmpY ?_ | refine cmpN ?_ | (refine cmp_both ?_ ?_ <;> intro _))) | (show wrapK _ _ _; refine wrapA ?_) | (show leK _ _ _; refine leA ?_) | (show roomK _ _ _; refine roomA ?_) | (show ltK _ _ _; refine ltA ?_) | (show _ ∧ _; refine ⟨?_, ?_⟩) | (show keepK _ _ _ _ _; refine keepA ?_) | refine own_keep ?_ | refine ap_old ?_))
    refine Wp.loop (σ := Nat × Nat) 5 (fun q => [(0, .lp 0 0 0 0), (1, .c (.int .i64 x)), (2, .c d.val), (7, .c (.int .i64 c.slots)), (8, .c (.int .i64 q.2))]) (fun _ => lowH c s vl) (fun _ => ((intsL s.plains).and (diagA d)).and (restF w F)) (fun q => stepG q.1 c.slots q.2 = stepG c.slots c.slots 1 ∧ c.slots ≤ q.2 + q.1 ∧ 1 ≤ q.2 ∧ q.2 ≤ 128) (fun q => q.1) (c.slots, 1) [] (by decide) (fun q => ⟨rfl, rfl⟩) ⟨rfl, by omega, Nat.le_refl _, (by decide : 1 ≤ 128)⟩ ⟨rfl, ⟨rfl, rfl, rfl, rfl, rfl, trivial⟩, ⟨(by repeat (first | exact List.mem_cons_self | apply List.mem_cons_of_mem)), (by repeat (first | exact List.mem_cons_self | apply List.mem_cons_of_mem)), (by repeat (first | exact List.mem_cons_self | apply List.mem_cons_of_mem)), (by repeat (first | exact List.mem_cons_self | apply List.mem_cons_of_mem)), (by repeat (first | exact List.mem_cons_self | apply List.mem_cons_of_mem)), trivial⟩, fun R w' h => h⟩ ?_
    rintro ⟨f, g⟩ ⟨hgs, hgf, hg1, hg2⟩
    simp only at hgs hgf hg1 hg2
    have hgg : g * g ≤ 128 * 128 := Nat.mul_le_mul hg2 hg2
    have hgc : ((g * g : Nat) : Int) = (g : Int) * g := by push_cast; rfl
    by_cases hlt : g * g < c.slots
    focus
      obtain ⟨f', rfl, e⟩ := stepG_go hlt hgf hg1
      have := sq_small hlt hn2
      (repeat' ((conv => whnf) <;> first | (show @cmpK _ _ _; (refine cmp_yes (by rw [← hgc]; omega) ?_)) | (show wrapK _ _ _; (first | refine wrap_i64 (by rw [← hgc]; omega) (by rw [← hgc]; omega) ?_)) | (show drawK _ 21 _ _ _ _ _ _; refine draw_tree tabOk mixed [] _ dtQL0 (by kernel_rfl) (by kernel_rfl) (by kernel_rfl) (List.Sublist.refl _) ?_) | (show Wp _ _ _ _ _ _ _; refine Wp.go tabOk rfl ?_) | (show @cmpK _ _ _; (first | refine cmpY ?_ | refine cmpN ?_ | (refine cmp_both ?_ ?_ <;> intro _))) | (show wrapK _ _ _; refine wrapA ?_) | (show leK _ _ _; refine leA ?_) | (show roomK _ _ _; refine roomA ?_) | (show ltK _ _ _; refine ltA ?_) | (show _ ∧ _; refine ⟨?_, ?_⟩) | (show keepK _ _ _ _ _; refine keepA ?_) | refine own_keep ?_ | refine ap_old ?_))
      all_goals (conv => whnf)
      exact ⟨(f', g * 2), [], ⟨by rw [← hgs, e, Nat.mul_comm], by show c.slots ≤ g * 2 + f'; omega, by show 1 ≤ g * 2; omega, by show g * 2 ≤ 128; omega⟩, Nat.lt_succ_self f', rfl, ⟨rfl, rfl, rfl, rfl, rfl, trivial⟩, ⟨(by repeat (first | exact List.mem_cons_self | apply List.mem_cons_of_mem)), (by repeat (first | exact List.mem_cons_self | apply List.mem_cons_of_mem)), (by repeat (first | exact List.mem_cons_self | apply List.mem_cons_of_mem)), (by repeat (first | exact List.mem_cons_self | apply List.mem_cons_of_mem)), (by repeat (first | exact List.mem_cons_self | apply List.mem_cons_of_mem)), trivial⟩, fun R w' h => h⟩
    rw [stepG_end hlt] at hgs
    have hgv : giantOf c.giant c.slots = g := by rw [hg]; exact hgs.symm
    have hg4 : g ≤ 4096 := by omega
    (repeat' ((conv => whnf) <;> first | (show @cmpK _ _ _; (refine cmp_no (by rw [← hgc]; omega) ?_)) | (show wrapK _ _ _; (refine wrap_i64 (by rw [← hgc]; omega) (by rw [← hgc]; omega) ?_)) | (show mapNewK _ _ _ _; refine mapNew_of (fun r => ?_)) | (show mapPutK _ _ _ _ _ _ _ _; (refine put_T0 (by repeat (first | exact List.mem_cons_self | apply List.mem_cons_of_mem)) ?_)) | (show drawK _ 21 _ _ _ _ _ _; refine draw_tree tabOk mixed [] _ dtQL0 (by kernel_rfl) (by kernel_rfl) (by kernel_rfl) (List.Sublist.refl _) ?_) | (show Wp _ _ _ _ _ _ _; refine Wp.go tabOk rfl ?_) | (show @cmpK _ _ _; (first | refine cmpY ?_ | refine cmpN ?_ | (refine cmp_both ?_ ?_ <;> intro _))) | (show wrapK _ _ _; refine wrapA ?_) | (show leK _ _ _; refine leA ?_) | (show roomK _ _ _; refine roomA ?_) | (show ltK _ _ _; refine ltA ?_) | (show _ ∧ _; refine ⟨?_, ?_⟩) | (show keepK _ _ _ _ _; refine keepA ?_) | refine own_keep ?_ | refine ap_old ?_))
    clear hgs hgf hgg hgc hg2 hlt hg
  rotate_left
  focus
    let g : Nat := c.slots
    have hgv : giantOf c.giant c.slots = g := by rw [hg]; show c.slots = g; rfl
    have hg1 : 1 ≤ g := hn1
    have hg4 : g ≤ 4096 := hn2
    (repeat' ((conv => whnf) <;> first | (show mapNewK _ _ _ _; refine mapNew_of (fun r => ?_)) | (show mapPutK _ _ _ _ _ _ _ _; (refine put_T0 (by repeat (first | exact List.mem_cons_self | apply List.mem_cons_of_mem)) ?_)) | (show drawK _ 21 _ _ _ _ _ _; refine draw_tree tabOk mixed [] _ dtQL0 (by kernel_rfl) (by kernel_rfl) (by kernel_rfl) (List.Sublist.refl _) ?_) | (show Wp _ _ _ _ _ _ _; refine Wp.go tabOk rfl ?_) | (show @cmpK _ _ _; (first | refine cmpY ?_ | refine cmpN ?_ | (refine cmp_both ?_ ?_ <;> intro _))) | (show wrapK _ _ _; refine wrapA ?_) | (show leK _ _ _; refine leA ?_) | (show roomK _ _ _; refine roomA ?_) | (show ltK _ _ _; refine ltA ?_) | (show _ ∧ _; refine ⟨?_, ?_⟩) | (show keepK _ _ _ _ _; refine keepA ?_) | refine own_keep ?_ | refine ap_old ?_))
    clear hg
  all_goals
    obtain ⟨Y, hY0⟩ : ∃ Y, giantL c.slots g x (d.l.map IntsV.xs) c.slots 0 ⟨s.pl, startT x, none⟩ = Y := ⟨_, rfl⟩
    refine Wp.loop (σ := Nat × Nat × RowV) 10 (fun q => [(0, .lp 0 0 0 0), (1, .c (.int .i64 x)), (2, .c d.val), (7, .c (.int .i64 c.slots)), (8, .c (.int .i64 g)), (9, .c (.map (some r))), (10, .lp 6 0 0 0), (11, .c (.int .i64 q.1))]) (fun q => rowH6 c vl r q.2.2) (fun q => rowF w F s d q.2.2.s) (fun q => giantL c.slots g x (d.l.map IntsV.xs) q.2.1 q.1 q.2.2.pl = Y ∧ c.slots ≤ q.1 + q.2.1 ∧ q.1 ≤ 8192 ∧ LowS3 c (500000 + 6 * q.1) q.2.2.s) (fun q => c.slots - q.1) (0, c.slots, ⟨s, startT x, none⟩) [(7, some 2), (8, some 3), (9, some 4)] (by decide) (fun q => ⟨rfl, rfl⟩) ⟨hY0, by show c.slots ≤ 0 + c.slots; omega, Nat.zero_le _, hN.ok, hN.fewP, hN.fewC⟩ ⟨rfl, ⟨rfl, rfl, rfl, rfl, rfl, rfl, rfl, rfl, trivial⟩, ⟨(by repeat (first | exact List.mem_cons_self | apply List.mem_cons_of_mem)), (by repeat (first | exact List.mem_cons_self | apply List.mem_cons_of_mem)), (by repeat (first | exact List.mem_cons_self | apply List.mem_cons_of_mem)), (by repeat (first | exact List.mem_cons_self | apply List.mem_cons_of_mem)), (by repeat (first | exact List.mem_cons_self | apply List.mem_cons_of_mem)), (by repeat (first | exact List.mem_cons_self | apply List.mem_cons_of_mem)), (by repeat (first | exact List.mem_cons_self | apply List.mem_cons_of_mem)), trivial⟩, fun R w' h => ⟨⟨⟨h.1.1, newL_refl _ _ _⟩, h.1.2⟩, h.2⟩⟩ ?_
    rintro ⟨base, f, ys, yt, ym⟩ ⟨hY, hf, hb8, z0⟩
    simp only at hY hf hb8 z0
    by_cases hlt : base < c.slots
    focus
      obtain ⟨f', rfl⟩ : ∃ f', f = f' + 1 := ⟨f - 1, by omega⟩
      rw [giantL, if_pos hlt] at hY
      obtain ⟨hi, hhi⟩ : ∃ hi, hi = min c.slots (base + g) := ⟨_, rfl⟩
      rw [← hhi] at hY
      have hhi1 : base < hi := by omega
      have hhi2 : hi ≤ c.slots := by omega
      (repeat' ((conv => whnf) <;> first | (show @cmpK _ _ _; (first | refine cmp_min (z := (hi : Int)) (by omega) rfl rfl ?_ | refine cmp_yes (by omega) ?_)) | (show sliceK _ _ _ _ _ _ _ _; refine slice_cutS (u := d) (l := base) (h := hi) rfl rfl (by omega) (by omega) hdc ?_) | (show drawK _ 21 _ _ _ _ _ _; refine draw_tree tabOk mixed [] _ dtQL0 (by kernel_rfl) (by kernel_rfl) (by kernel_rfl) (List.Sublist.refl _) ?_) | (show Wp _ _ _ _ _ _ _; refine Wp.go tabOk rfl ?_) | (show @cmpK _ _ _; (first | refine cmpY ?_ | refine cmpN ?_ | (refine cmp_both ?_ ?_ <;> intro _))) | (show wrapK _ _ _; refine wrapA ?_) | (show leK _ _ _; refine leA ?_) | (show roomK _ _ _; refine roomA ?_) | (show ltK _ _ _; refine ltA ?_) | (show _ ∧ _; refine ⟨?_, ?_⟩) | (show keepK _ _ _ _ _; refine keepA ?_) | refine own_keep ?_ | refine ap_old ?_))
      have hdsl : (cutS d base hi).l.length = hi - base := cutS_length (by omega)
      have hdmem : ∀ u ∈ (cutS d base hi).l, u ∈ d.l := fun u hu => List.mem_of_mem_drop (List.mem_of_mem_take hu)
      obtain ⟨Z, hZ0⟩ : ∃ Z, innerL c.slots base x (((cutS d base hi).l.drop 0).map IntsV.xs) 0 ⟨ys.pl, yt, none⟩ = Z := ⟨_, rfl⟩
      have hZg : innerL c.slots base x (List.take (hi - base) (List.drop base (d.l.map IntsV.xs))) 0 ⟨ys.pl, yt, none⟩ = Z := by rw [← hZ0]; simp [cutS, List.map_drop, List.map_take]
      have hcr : ∀ R w', (diagA d).holds R w' → RowsI w' (cutS d base hi).base 1 (shRows (cutS d base hi).l) := fun R w' h => cutS_rows (rowsA_in h.1) hdc
      generalize hds' : cutS d base hi = ds at *
      refine Wp.loop (σ := Nat × RowV) 14 (fun q => [(0, .lp 0 0 0 0), (1, .c (.int .i64 x)), (2, .c d.val), (7, .c (.int .i64 c.slots)), (8, .c (.int .i64 g)), (9, .c (.map (some r))), (10, .lp 6 0 0 0), (11, .c (.int .i64 base)), (12, .lp 10 0 0 0), (57, .c ds.val), (58, .c (.int .i64 ds.l.length)), (59, .c (.int .i64 q.1))]) (fun q => rowH7 c vl r ym q.2) (fun q => rowF w F s d q.2.s) (fun q => q.1 ≤ ds.l.length ∧ innerL c.slots base x ((ds.l.drop q.1).map IntsV.xs) q.1 q.2.pl = Z ∧ LowS3 c (500000 + 6 * base + 4 * q.1) q.2.s) (fun q => ds.l.length - q.1) (0, ⟨ys, yt, none⟩) [(11, some 7), (12, some 8), (13, some 9)] (by decide) (fun q => ⟨rfl, rfl⟩) ⟨Nat.zero_le _, hZ0, z0⟩ ⟨rfl, ⟨rfl, rfl, rfl, rfl, rfl, rfl, rfl, rfl, rfl, rfl, rfl, rfl, trivial⟩, ⟨(by repeat (first | exact List.mem_cons_self | apply List.mem_cons_of_mem)), (by repeat (first | exact List.mem_cons_self | apply List.mem_cons_of_mem)), (by repeat (first | exact List.mem_cons_self | apply List.mem_cons_of_mem)), (by repeat (first | exact List.mem_cons_self | apply List.mem_cons_of_mem)), (by repeat (first | exact List.mem_cons_self | apply List.mem_cons_of_mem)), (by repeat (first | exact List.mem_cons_self | apply List.mem_cons_of_mem)), (by repeat (first | exact List.mem_cons_self | apply List.mem_cons_of_mem)), (by repeat (first | exact List.mem_cons_self | apply List.mem_cons_of_mem)), trivial⟩, fun R w' h => h⟩ ?_
      clear hZ0 z0
      rintro ⟨k, qs, qt, qm⟩ ⟨hkl, hZ, z0⟩
      simp only at hkl hZ z0
      by_cases hlt2 : k < ds.l.length
      focus
        rw [List.drop_eq_getElem_cons hlt2, List.map_cons, innerL] at hZ
        have hrow := shRows_get hlt2
        have hum := hdmem _ (List.getElem_mem hlt2)
        generalize ds.l[k] = u at *
        have hus := hds u hum
        refine Wp.know (p := ∃ a, ds.base = some a) (fun ρ w' hw => holds_of_abs hw fun R h => base_some (j := k) (hcr _ _ h.1.2) (by rw [shRows_length]; exact hlt2)) ?_
        rintro ⟨da, hda⟩
        rcases hdn u hum with ⟨hx0, hb0⟩ | hxl
        focus
          rw [innerS, if_pos hx0] at hZ
          (repeat' ((conv => whnf) <;> first | (show idxK _ _ _ _ _; refine idx_of da k hda rfl hlt2 ?_) | (show roK _ _ _; (refine ro_row0 (fun R w' h => by rw [← hda]; exact hcr _ _ h.1.2) _ _ hrow rfl ?_)) | (show pureK _ _ _; (refine slice_nil_is (ti 32 rfl) rfl (b := true) (by rw [hb0]; rfl) ?_)) | (show drawK _ 21 _ _ _ _ _ _; refine draw_tree tabOk mixed [] _ dtQL0 (by kernel_rfl) (by kernel_rfl) (by kernel_rfl) (List.Sublist.refl _) ?_) | (show Wp _ _ _ _ _ _ _; refine Wp.go tabOk rfl ?_) | (show @cmpK _ _ _; (first | refine cmpY ?_ | refine cmpN ?_ | (refine cmp_both ?_ ?_ <;> intro _))) | (show wrapK _ _ _; refine wrapA ?_) | (show leK _ _ _; refine leA ?_) | (show roomK _ _ _; refine roomA ?_) | (show ltK _ _ _; refine ltA ?_) | (show _ ∧ _; refine ⟨?_, ?_⟩) | (show keepK _ _ _ _ _; refine keepA ?_) | refine own_keep ?_ | refine ap_old ?_))
          all_goals (conv => whnf)
          all_goals exact ⟨(k + 1, ⟨qs, qt, qm⟩), [], ⟨hlt2, hZ, z0.mono (by show _ ≤ 500000 + 6 * base + 4 * (k + 1); omega)⟩, by show ds.l.length - (k + 1) < ds.l.length - k; omega, rfl, ⟨rfl, rfl, rfl, rfl, rfl, rfl, rfl, rfl, rfl, rfl, rfl, rfl, trivial⟩, ⟨(by repeat (first | exact List.mem_cons_self | apply List.mem_cons_of_mem)), (by repeat (first | exact List.mem_cons_self | apply List.mem_cons_of_mem)), (by repeat (first | exact List.mem_cons_self | apply List.mem_cons_of_mem)), (by repeat (first | exact List.mem_cons_self | apply List.mem_cons_of_mem)), (by repeat (first | exact List.mem_cons_self | apply List.mem_cons_of_mem)), (by repeat (first | exact List.mem_cons_self | apply List.mem_cons_of_mem)), (by repeat (first | exact List.mem_cons_self | apply List.mem_cons_of_mem)), (by repeat (first | exact List.mem_cons_self | apply List.mem_cons_of_mem)), trivial⟩, fun R w' h => h⟩
        have hune : u.xs ≠ [] := fun h => by rw [h] at hxl; simp at hxl; omega
        refine Wp.know (p := ∃ a, u.base = some a) (fun ρ w' hw => holds_of_abs hw fun R h => base_some (j := 0) (rowsA_in (h.1.2.2 u hum)) (by rw [ints_length]; omega)) ?_
        rintro ⟨ua, hua⟩
        have hu1 : (cutV u (c.slots - base) c.slots).xs = u.xs.drop (c.slots - base) := by show (u.xs.drop (c.slots - base)).take (c.slots - (c.slots - base)) = _; rw [List.take_of_length_le (by rw [List.length_drop]; omega)]
        have hu2 : (cutV u 0 (c.slots - base)).xs = u.xs.take (c.slots - base) := by show (u.xs.drop 0).take (c.slots - base - 0) = _; rw [List.drop_zero, Nat.sub_zero]
        rcases ht : qt k with _ | t
        focus
          rcases qm with _ | a
          focus
            (repeat' ((conv => whnf) <;> first | (show idxK _ _ _ _ _; refine idx_of da k hda rfl hlt2 ?_) | (show roK _ _ _; (refine ro_row0 (fun R w' h => by rw [← hda]; exact hcr _ _ h.1.2) _ _ hrow rfl ?_)) | (show pureK _ _ _; (refine slice_nil_is (ti 32 rfl) rfl (b := false) (by rw [hua]; rfl) ?_)) | (show lookK _ _ _ _ _ _ _ _; (refine look_T (by repeat (first | exact List.mem_cons_self | apply List.mem_cons_of_mem)) ht ?_)) | (show drawK _ 21 _ _ _ _ _ _; refine draw_tree tabOk mixed [] _ dtQL0 (by kernel_rfl) (by kernel_rfl) (by kernel_rfl) (List.Sublist.refl _) ?_) | (show Wp _ _ _ _ _ _ _; refine Wp.go tabOk rfl ?_) | (show @cmpK _ _ _; (first | refine cmpY ?_ | refine cmpN ?_ | (refine cmp_both ?_ ?_ <;> intro _))) | (show wrapK _ _ _; refine wrapA ?_) | (show leK _ _ _; refine leA ?_) | (show roomK _ _ _; refine roomA ?_) | (show ltK _ _ _; refine ltA ?_) | (show _ ∧ _; refine ⟨?_, ?_⟩) | (show keepK _ _ _ _ _; refine keepA ?_) | refine own_keep ?_ | refine ap_old ?_))
            refine call_lowG [(10, .box (sumB none) 129), (6, .box (sumB ym) 129), (5, .ext (mapO r (mapT qt)))] 0 1 11 12 13 c (qs) vl trueA [.lp 0 0 0 0, .c (.int .i64 (8)), .c (.int .i64 (x)), .c (.int .i64 (0)), .c (.int .i64 (k))] _ _ _ _ Tryz.call68 rfl rfl rfl (fun R w' h => trivial) (othF w F) (fun R w' h b hb => ((h).2 b hb).1) (fun w' ρ' F' h' => low_lay c (qs) vl (8) (x) (0) (k) (by have := z0.fewC; omega) w' ρ' F' h') (fun _ _ => ?_)
            have z1 := z0.lay (8) (x) (0) (k)
            (repeat' ((conv => whnf) <;> first | (show mapPutK _ _ _ _ _ _ _ _; (refine put_T (by repeat (first | exact List.mem_cons_self | apply List.mem_cons_of_mem)) ?_)) | (show drawK _ 21 _ _ _ _ _ _; refine draw_tree tabOk mixed [] _ dtQL1 (by kernel_rfl) (by kernel_rfl) (by kernel_rfl) (List.Sublist.refl _) ?_) | (show sliceK _ _ _ _ _ _ _ _; (first | refine slice_cutV (u := u) (l := c.slots - base) (h := c.slots) (by show _ = ((c.slots - base : Nat) : Int); omega) hxl.symm (by omega) (by omega) hus.room ?_ | refine slice_cutV (u := u) (l := 0) (h := c.slots - base) rfl (by show _ = ((c.slots - base : Nat) : Int); omega) (by omega) (by omega) hus.room ?_)) | (show callK _ 129 _ _ _ _ _; (refine call_concat rfl (cutV u (c.slots - base) c.slots) (cutV u 0 (c.slots - base)) (othF w F) (fun R w' h b hb => ((h.1).2 b hb).1) (fun R w' h => cutV_rows (rowsA_in ((h.1).1.2.2 u hum)) hus.room) (fun R w' h => cutV_rows (rowsA_in ((h.1).1.2.2 u hum)) hus.room) (cutV_sane hus) (cutV_sane hus) (by rw [cutV_length (by omega), cutV_length (by omega)]; omega) (by rw [cutV_length (by omega), cutV_length (by omega)]; omega) (fun m hm ms => ?_))) | (show Wp _ _ _ _ _ _ _; refine Wp.go tabOk rfl ?_) | (show @cmpK _ _ _; (first | refine cmpY ?_ | refine cmpN ?_ | (refine cmp_both ?_ ?_ <;> intro _))) | (show wrapK _ _ _; refine wrapA ?_) | (show leK _ _ _; refine leA ?_) | (show roomK _ _ _; refine roomA ?_) | (show ltK _ _ _; refine ltA ?_) | (show _ ∧ _; refine ⟨?_, ?_⟩) | (show keepK _ _ _ _ _; refine keepA ?_) | refine own_keep ?_ | refine ap_old ?_))
            have hmv : m.xs = movedR c.slots base u.xs := by rw [hm, hu1, hu2]; rfl
            refine call_lowG [(10, .box (sumB none) 129), (6, .box (sumB ym) 129), (5, .ext (mapO r (mapT (fun z => if z = (k : Int) then some ((qs).code.length : Int) else qt z))))] 0 1 16 17 18 c (layV (qs) (8) (x) (0) (k)) vl ((intsL (layV (qs) (8) (x) (0) (k)).plains).and (intsA m)) [.lp 0 0 0 0, .c m.val] _ _ _ _ Tryz.call130 rfl rfl rfl (fun R w' h => ⟨(h.1.1).1.1.1, off_in (h).2⟩) (othF w F) (fun R w' h b hb => ((h.1.1).2 b hb).1) (fun w' ρ' F' h' => low_plain c (layV (qs) (8) (x) (0) (k)) vl m ms z1.ok.plains (by have := z1.fewP; omega) w' ρ' F' h') (fun _ _ => ?_)
            have z2 := z1.plain ms
            (repeat' ((conv => whnf) <;> first | (show drawK _ 21 _ _ _ _ _ _; refine draw_tree tabOk mixed [] _ dtQL0 (by kernel_rfl) (by kernel_rfl) (by kernel_rfl) (List.Sublist.refl _) ?_) | (show Wp _ _ _ _ _ _ _; refine Wp.go tabOk rfl ?_) | (show @cmpK _ _ _; (first | refine cmpY ?_ | refine cmpN ?_ | (refine cmp_both ?_ ?_ <;> intro _))) | (show wrapK _ _ _; refine wrapA ?_) | (show leK _ _ _; refine leA ?_) | (show roomK _ _ _; refine roomA ?_) | (show ltK _ _ _; refine ltA ?_) | (show _ ∧ _; refine ⟨?_, ?_⟩) | (show keepK _ _ _ _ _; refine keepA ?_) | refine own_keep ?_ | refine ap_old ?_))
            refine call_lowG [(10, .box (sumB none) 129), (6, .box (sumB ym) 129), (5, .ext (mapO r (mapT (fun z => if z = (k : Int) then some ((qs).code.length : Int) else qt z))))] 0 1 23 24 25 c ((plainV (layV (qs) (8) (x) (0) (k)) m).1) vl trueA [.lp 0 0 0 0, .c (.int .i64 (5)), .c (.int .i64 (((qs).code.length : Int))), .c (.int .i64 (0)), .c (.int .i64 ((plainV (layV (qs) (8) (x) (0) (k)) m).2))] _ _ _ _ Tryz.call68 rfl rfl rfl (fun R w' h => trivial) (othF w F) (fun R w' h b hb => ((h.1.1.1).2 b hb).1) (fun w' ρ' F' h' => low_lay c ((plainV (layV (qs) (8) (x) (0) (k)) m).1) vl (5) (((qs).code.length : Int)) (0) ((plainV (layV (qs) (8) (x) (0) (k)) m).2) (by have := z2.fewC; omega) w' ρ' F' h') (fun _ _ => ?_)
            have z3 := z2.lay (5) (((qs).code.length : Int)) (0) ((plainV (layV (qs) (8) (x) (0) (k)) m).2)
            (repeat' ((conv => whnf) <;> first | (show callK _ 73 _ _ _ _ _; (refine call_inline tabOk Tryz.func73 rfl rfl rfl Tryz.call73 rfl (by show 2 ≤ _; decide) ?_)) | (show drawK _ 1 _ _ _ _ _ _; refine draw_tree tabOk mixed [9, 10] _ dtQI1 (by kernel_rfl) (by kernel_rfl) (by kernel_rfl) (List.Sublist.refl _) ?_) | (show doneK _ _ _ _ _; refine done_of ?_) | (show drawK _ 21 _ _ _ _ _ _; refine draw_tree tabOk mixed [] _ dtQL0 (by kernel_rfl) (by kernel_rfl) (by kernel_rfl) (List.Sublist.refl _) ?_) | (show Wp _ _ _ _ _ _ _; refine Wp.go tabOk rfl ?_) | (show @cmpK _ _ _; (first | refine cmpY ?_ | refine cmpN ?_ | (refine cmp_both ?_ ?_ <;> intro _))) | (show wrapK _ _ _; refine wrapA ?_) | (show leK _ _ _; refine leA ?_) | (show roomK _ _ _; refine roomA ?_) | (show ltK _ _ _; refine ltA ?_) | (show _ ∧ _; refine ⟨?_, ?_⟩) | (show keepK _ _ _ _ _; refine keepA ?_) | refine own_keep ?_ | refine ap_old ?_))
            all_goals (conv => whnf)
            all_goals exact ⟨(k + 1, ⟨layV ((plainV (layV (qs) (8) (x) (0) (k)) m).1) (5) (((qs).code.length : Int)) (0) ((plainV (layV (qs) (8) (x) (0) (k)) m).2), (fun z => if z = (k : Int) then some ((qs).code.length : Int) else qt z), some (((plainV (layV (qs) (8) (x) (0) (k)) m).1).code.length : Int)⟩), [(11, some 28), (12, some 29), (13, some 30)], ⟨hlt2, by rw [← hZ, ← innerV_pl (y := ⟨qs, qt, none⟩) (x := x) (i := k) hmv hune]; simp only [innerV, turnV, ht, addV], z3.mono (by show _ ≤ 500000 + 6 * base + 4 * (k + 1); omega)⟩, by show ds.l.length - (k + 1) < ds.l.length - k; omega, rfl, ⟨rfl, rfl, rfl, rfl, rfl, rfl, rfl, rfl, rfl, rfl, rfl, rfl, trivial⟩, ⟨(by repeat (first | exact List.mem_cons_self | apply List.mem_cons_of_mem)), (by repeat (first | exact List.mem_cons_self | apply List.mem_cons_of_mem)), (by repeat (first | exact List.mem_cons_self | apply List.mem_cons_of_mem)), (by repeat (first | exact List.mem_cons_self | apply List.mem_cons_of_mem)), (by repeat (first | exact List.mem_cons_self | apply List.mem_cons_of_mem)), (by repeat (first | exact List.mem_cons_self | apply List.mem_cons_of_mem)), (by repeat (first | exact List.mem_cons_self | apply List.mem_cons_of_mem)), (by repeat (first | exact List.mem_cons_self | apply List.mem_cons_of_mem)), trivial⟩, fun R w' h => ⟨⟨⟨(plainV_L ((h.1.1.1.1).1.1.1) (off_in (h.1.1).2)), (newL_more ((h.1.1.1.1).1.1.2) (h.1.1).2)⟩, (h.1.1.1.1).1.2⟩, (h.1.1.1.1).2⟩⟩
          focus
            (repeat' ((conv => whnf) <;> first | (show idxK _ _ _ _ _; refine idx_of da k hda rfl hlt2 ?_) | (show roK _ _ _; (refine ro_row0 (fun R w' h => by rw [← hda]; exact hcr _ _ h.1.2) _ _ hrow rfl ?_)) | (show pureK _ _ _; (refine slice_nil_is (ti 32 rfl) rfl (b := false) (by rw [hua]; rfl) ?_)) | (show lookK _ _ _ _ _ _ _ _; (refine look_T (by repeat (first | exact List.mem_cons_self | apply List.mem_cons_of_mem)) ht ?_)) | (show drawK _ 21 _ _ _ _ _ _; refine draw_tree tabOk mixed [] _ dtQL0 (by kernel_rfl) (by kernel_rfl) (by kernel_rfl) (List.Sublist.refl _) ?_) | (show Wp _ _ _ _ _ _ _; refine Wp.go tabOk rfl ?_) | (show @cmpK _ _ _; (first | refine cmpY ?_ | refine cmpN ?_ | (refine cmp_both ?_ ?_ <;> intro _))) | (show wrapK _ _ _; refine wrapA ?_) | (show leK _ _ _; refine leA ?_) | (show roomK _ _ _; refine roomA ?_) | (show ltK _ _ _; refine ltA ?_) | (show _ ∧ _; refine ⟨?_, ?_⟩) | (show keepK _ _ _ _ _; refine keepA ?_) | refine own_keep ?_ | refine ap_old ?_))
            refine call_lowG [(10, .box (sumB (some a)) 129), (6, .box (sumB ym) 129), (5, .ext (mapO r (mapT qt)))] 0 1 11 12 13 c (qs) vl trueA [.lp 0 0 0 0, .c (.int .i64 (8)), .c (.int .i64 (x)), .c (.int .i64 (0)), .c (.int .i64 (k))] _ _ _ _ Tryz.call68 rfl rfl rfl (fun R w' h => trivial) (othF w F) (fun R w' h b hb => ((h).2 b hb).1) (fun w' ρ' F' h' => low_lay c (qs) vl (8) (x) (0) (k) (by have := z0.fewC; omega) w' ρ' F' h') (fun _ _ => ?_)
            have z1 := z0.lay (8) (x) (0) (k)
            (repeat' ((conv => whnf) <;> first | (show mapPutK _ _ _ _ _ _ _ _; (refine put_T (by repeat (first | exact List.mem_cons_self | apply List.mem_cons_of_mem)) ?_)) | (show drawK _ 21 _ _ _ _ _ _; refine draw_tree tabOk mixed [] _ dtQL1 (by kernel_rfl) (by kernel_rfl) (by kernel_rfl) (List.Sublist.refl _) ?_) | (show sliceK _ _ _ _ _ _ _ _; (first | refine slice_cutV (u := u) (l := c.slots - base) (h := c.slots) (by show _ = ((c.slots - base : Nat) : Int); omega) hxl.symm (by omega) (by omega) hus.room ?_ | refine slice_cutV (u := u) (l := 0) (h := c.slots - base) rfl (by show _ = ((c.slots - base : Nat) : Int); omega) (by omega) (by omega) hus.room ?_)) | (show callK _ 129 _ _ _ _ _; (refine call_concat rfl (cutV u (c.slots - base) c.slots) (cutV u 0 (c.slots - base)) (othF w F) (fun R w' h b hb => ((h.1).2 b hb).1) (fun R w' h => cutV_rows (rowsA_in ((h.1).1.2.2 u hum)) hus.room) (fun R w' h => cutV_rows (rowsA_in ((h.1).1.2.2 u hum)) hus.room) (cutV_sane hus) (cutV_sane hus) (by rw [cutV_length (by omega), cutV_length (by omega)]; omega) (by rw [cutV_length (by omega), cutV_length (by omega)]; omega) (fun m hm ms => ?_))) | (show Wp _ _ _ _ _ _ _; refine Wp.go tabOk rfl ?_) | (show @cmpK _ _ _; (first | refine cmpY ?_ | refine cmpN ?_ | (refine cmp_both ?_ ?_ <;> intro _))) | (show wrapK _ _ _; refine wrapA ?_) | (show leK _ _ _; refine leA ?_) | (show roomK _ _ _; refine roomA ?_) | (show ltK _ _ _; refine ltA ?_) | (show _ ∧ _; refine ⟨?_, ?_⟩) | (show keepK _ _ _ _ _; refine keepA ?_) | refine own_keep ?_ | refine ap_old ?_))
            have hmv : m.xs = movedR c.slots base u.xs := by rw [hm, hu1, hu2]; rfl
            refine call_lowG [(10, .box (sumB (some a)) 129), (6, .box (sumB ym) 129), (5, .ext (mapO r (mapT (fun z => if z = (k : Int) then some ((qs).code.length : Int) else qt z))))] 0 1 16 17 18 c (layV (qs) (8) (x) (0) (k)) vl ((intsL (layV (qs) (8) (x) (0) (k)).plains).and (intsA m)) [.lp 0 0 0 0, .c m.val] _ _ _ _ Tryz.call130 rfl rfl rfl (fun R w' h => ⟨(h.1.1).1.1.1, off_in (h).2⟩) (othF w F) (fun R w' h b hb => ((h.1.1).2 b hb).1) (fun w' ρ' F' h' => low_plain c (layV (qs) (8) (x) (0) (k)) vl m ms z1.ok.plains (by have := z1.fewP; omega) w' ρ' F' h') (fun _ _ => ?_)
            have z2 := z1.plain ms
            (repeat' ((conv => whnf) <;> first | (show drawK _ 21 _ _ _ _ _ _; refine draw_tree tabOk mixed [] _ dtQL0 (by kernel_rfl) (by kernel_rfl) (by kernel_rfl) (List.Sublist.refl _) ?_) | (show Wp _ _ _ _ _ _ _; refine Wp.go tabOk rfl ?_) | (show @cmpK _ _ _; (first | refine cmpY ?_ | refine cmpN ?_ | (refine cmp_both ?_ ?_ <;> intro _))) | (show wrapK _ _ _; refine wrapA ?_) | (show leK _ _ _; refine leA ?_) | (show roomK _ _ _; refine roomA ?_) | (show ltK _ _ _; refine ltA ?_) | (show _ ∧ _; refine ⟨?_, ?_⟩) | (show keepK _ _ _ _ _; refine keepA ?_) | refine own_keep ?_ | refine ap_old ?_))
            refine call_lowG [(10, .box (sumB (some a)) 129), (6, .box (sumB ym) 129), (5, .ext (mapO r (mapT (fun z => if z = (k : Int) then some ((qs).code.length : Int) else qt z))))] 0 1 23 24 25 c ((plainV (layV (qs) (8) (x) (0) (k)) m).1) vl trueA [.lp 0 0 0 0, .c (.int .i64 (5)), .c (.int .i64 (((qs).code.length : Int))), .c (.int .i64 (0)), .c (.int .i64 ((plainV (layV (qs) (8) (x) (0) (k)) m).2))] _ _ _ _ Tryz.call68 rfl rfl rfl (fun R w' h => trivial) (othF w F) (fun R w' h b hb => ((h.1.1.1).2 b hb).1) (fun w' ρ' F' h' => low_lay c ((plainV (layV (qs) (8) (x) (0) (k)) m).1) vl (5) (((qs).code.length : Int)) (0) ((plainV (layV (qs) (8) (x) (0) (k)) m).2) (by have := z2.fewC; omega) w' ρ' F' h') (fun _ _ => ?_)
            have z3 := z2.lay (5) (((qs).code.length : Int)) (0) ((plainV (layV (qs) (8) (x) (0) (k)) m).2)
            (repeat' ((conv => whnf) <;> first | (show callK _ 73 _ _ _ _ _; (refine call_inline tabOk Tryz.func73 rfl rfl rfl Tryz.call73 rfl (by show 2 ≤ _; decide) ?_)) | (show drawK _ 1 _ _ _ _ _ _; refine draw_tree tabOk mixed [9, 10] _ dtQI1 (by kernel_rfl) (by kernel_rfl) (by kernel_rfl) (List.Sublist.refl _) ?_) | (show doneK _ _ _ _ _; refine done_of ?_) | (show drawK _ 21 _ _ _ _ _ _; refine draw_tree tabOk mixed [] _ dtQL0 (by kernel_rfl) (by kernel_rfl) (by kernel_rfl) (List.Sublist.refl _) ?_) | (show Wp _ _ _ _ _ _ _; refine Wp.go tabOk rfl ?_) | (show @cmpK _ _ _; (first | refine cmpY ?_ | refine cmpN ?_ | (refine cmp_both ?_ ?_ <;> intro _))) | (show wrapK _ _ _; refine wrapA ?_) | (show leK _ _ _; refine leA ?_) | (show roomK _ _ _; refine roomA ?_) | (show ltK _ _ _; refine ltA ?_) | (show _ ∧ _; refine ⟨?_, ?_⟩) | (show keepK _ _ _ _ _; refine keepA ?_) | refine own_keep ?_ | refine ap_old ?_))
            refine call_lowG [(10, .box (sumB (some a)) 129), (6, .box (sumB ym) 129), (5, .ext (mapO r (mapT (fun z => if z = (k : Int) then some ((qs).code.length : Int) else qt z))))] 0 1 28 29 30 c (layV ((plainV (layV (qs) (8) (x) (0) (k)) m).1) (5) (((qs).code.length : Int)) (0) ((plainV (layV (qs) (8) (x) (0) (k)) m).2)) vl trueA [.lp 0 0 0 0, .c (.int .i64 (3)), .c (.int .i64 (a)), .c (.int .i64 ((((plainV (layV (qs) (8) (x) (0) (k)) m).1).code.length : Int))), .c (.int .i64 (0))] _ _ _ _ Tryz.call68 rfl rfl rfl (fun R w' h => trivial) (othF w F) (fun R w' h b hb => ((h.1.1.1.1).2 b hb).1) (fun w' ρ' F' h' => low_lay c (layV ((plainV (layV (qs) (8) (x) (0) (k)) m).1) (5) (((qs).code.length : Int)) (0) ((plainV (layV (qs) (8) (x) (0) (k)) m).2)) vl (3) (a) ((((plainV (layV (qs) (8) (x) (0) (k)) m).1).code.length : Int)) (0) (by have := z3.fewC; omega) w' ρ' F' h') (fun _ _ => ?_)
            have z4 := z3.lay (3) (a) ((((plainV (layV (qs) (8) (x) (0) (k)) m).1).code.length : Int)) (0)
            (repeat' ((conv => whnf) <;> first | (show callK _ 73 _ _ _ _ _; (refine call_inline tabOk Tryz.func73 rfl rfl rfl Tryz.call73 rfl (by show 2 ≤ _; decide) ?_)) | (show drawK _ 1 _ _ _ _ _ _; refine draw_tree tabOk mixed [9, 10] _ dtQI1 (by kernel_rfl) (by kernel_rfl) (by kernel_rfl) (List.Sublist.refl _) ?_) | (show doneK _ _ _ _ _; refine done_of ?_) | (show drawK _ 21 _ _ _ _ _ _; refine draw_tree tabOk mixed [] _ dtQL0 (by kernel_rfl) (by kernel_rfl) (by kernel_rfl) (List.Sublist.refl _) ?_) | (show Wp _ _ _ _ _ _ _; refine Wp.go tabOk rfl ?_) | (show @cmpK _ _ _; (first | refine cmpY ?_ | refine cmpN ?_ | (refine cmp_both ?_ ?_ <;> intro _))) | (show wrapK _ _ _; refine wrapA ?_) | (show leK _ _ _; refine leA ?_) | (show roomK _ _ _; refine roomA ?_) | (show ltK _ _ _; refine ltA ?_) | (show _ ∧ _; refine ⟨?_, ?_⟩) | (show keepK _ _ _ _ _; refine keepA ?_) | refine own_keep ?_ | refine ap_old ?_))
            all_goals (conv => whnf)
            all_goals exact ⟨(k + 1, ⟨layV (layV ((plainV (layV (qs) (8) (x) (0) (k)) m).1) (5) (((qs).code.length : Int)) (0) ((plainV (layV (qs) (8) (x) (0) (k)) m).2)) (3) (a) ((((plainV (layV (qs) (8) (x) (0) (k)) m).1).code.length : Int)) (0), (fun z => if z = (k : Int) then some ((qs).code.length : Int) else qt z), some ((layV ((plainV (layV (qs) (8) (x) (0) (k)) m).1) (5) (((qs).code.length : Int)) (0) ((plainV (layV (qs) (8) (x) (0) (k)) m).2)).code.length : Int)⟩), [(11, some 33), (12, some 34), (13, some 35)], ⟨hlt2, by rw [← hZ, ← innerV_pl (y := ⟨qs, qt, some a⟩) (x := x) (i := k) hmv hune]; simp only [innerV, turnV, ht, addV], z4.mono (by show _ ≤ 500000 + 6 * base + 4 * (k + 1); omega)⟩, by show ds.l.length - (k + 1) < ds.l.length - k; omega, rfl, ⟨rfl, rfl, rfl, rfl, rfl, rfl, rfl, rfl, rfl, rfl, rfl, rfl, trivial⟩, ⟨(by repeat (first | exact List.mem_cons_self | apply List.mem_cons_of_mem)), (by repeat (first | exact List.mem_cons_self | apply List.mem_cons_of_mem)), (by repeat (first | exact List.mem_cons_self | apply List.mem_cons_of_mem)), (by repeat (first | exact List.mem_cons_self | apply List.mem_cons_of_mem)), (by repeat (first | exact List.mem_cons_self | apply List.mem_cons_of_mem)), (by repeat (first | exact List.mem_cons_self | apply List.mem_cons_of_mem)), (by repeat (first | exact List.mem_cons_self | apply List.mem_cons_of_mem)), (by repeat (first | exact List.mem_cons_self | apply List.mem_cons_of_mem)), trivial⟩, fun R w' h => ⟨⟨⟨(plainV_L ((h.1.1.1.1.1).1.1.1) (off_in (h.1.1.1).2)), (newL_more ((h.1.1.1.1.1).1.1.2) (h.1.1.1).2)⟩, (h.1.1.1.1.1).1.2⟩, (h.1.1.1.1.1).2⟩⟩
        focus
          rcases qm with _ | a
          focus
            (repeat' ((conv => whnf) <;> first | (show idxK _ _ _ _ _; refine idx_of da k hda rfl hlt2 ?_) | (show roK _ _ _; (refine ro_row0 (fun R w' h => by rw [← hda]; exact hcr _ _ h.1.2) _ _ hrow rfl ?_)) | (show pureK _ _ _; (refine slice_nil_is (ti 32 rfl) rfl (b := false) (by rw [hua]; rfl) ?_)) | (show lookK _ _ _ _ _ _ _ _; (refine look_T (by repeat (first | exact List.mem_cons_self | apply List.mem_cons_of_mem)) ht ?_)) | (show drawK _ 21 _ _ _ _ _ _; refine draw_tree tabOk mixed [] _ dtQL1 (by kernel_rfl) (by kernel_rfl) (by kernel_rfl) (List.Sublist.refl _) ?_) | (show sliceK _ _ _ _ _ _ _ _; (first | refine slice_cutV (u := u) (l := c.slots - base) (h := c.slots) (by show _ = ((c.slots - base : Nat) : Int); omega) hxl.symm (by omega) (by omega) hus.room ?_ | refine slice_cutV (u := u) (l := 0) (h := c.slots - base) rfl (by show _ = ((c.slots - base : Nat) : Int); omega) (by omega) (by omega) hus.room ?_)) | (show callK _ 129 _ _ _ _ _; (refine call_concat rfl (cutV u (c.slots - base) c.slots) (cutV u 0 (c.slots - base)) (othF w F) (fun R w' h b hb => ((h).2 b hb).1) (fun R w' h => cutV_rows (rowsA_in ((h).1.2.2 u hum)) hus.room) (fun R w' h => cutV_rows (rowsA_in ((h).1.2.2 u hum)) hus.room) (cutV_sane hus) (cutV_sane hus) (by rw [cutV_length (by omega), cutV_length (by omega)]; omega) (by rw [cutV_length (by omega), cutV_length (by omega)]; omega) (fun m hm ms => ?_))) | (show Wp _ _ _ _ _ _ _; refine Wp.go tabOk rfl ?_) | (show @cmpK _ _ _; (first | refine cmpY ?_ | refine cmpN ?_ | (refine cmp_both ?_ ?_ <;> intro _))) | (show wrapK _ _ _; refine wrapA ?_) | (show leK _ _ _; refine leA ?_) | (show roomK _ _ _; refine roomA ?_) | (show ltK _ _ _; refine ltA ?_) | (show _ ∧ _; refine ⟨?_, ?_⟩) | (show keepK _ _ _ _ _; refine keepA ?_) | refine own_keep ?_ | refine ap_old ?_))
            have hmv : m.xs = movedR c.slots base u.xs := by rw [hm, hu1, hu2]; rfl
            refine call_lowG [(10, .box (sumB none) 129), (6, .box (sumB ym) 129), (5, .ext (mapO r (mapT qt)))] 0 1 11 12 13 c (qs) vl ((intsL (qs).plains).and (intsA m)) [.lp 0 0 0 0, .c m.val] _ _ _ _ Tryz.call130 rfl rfl rfl (fun R w' h => ⟨(h.1).1.1.1, off_in (h).2⟩) (othF w F) (fun R w' h b hb => ((h.1).2 b hb).1) (fun w' ρ' F' h' => low_plain c (qs) vl m ms z0.ok.plains (by have := z0.fewP; omega) w' ρ' F' h') (fun _ _ => ?_)
            have z1 := z0.plain ms
            (repeat' ((conv => whnf) <;> first | (show drawK _ 21 _ _ _ _ _ _; refine draw_tree tabOk mixed [] _ dtQL0 (by kernel_rfl) (by kernel_rfl) (by kernel_rfl) (List.Sublist.refl _) ?_) | (show Wp _ _ _ _ _ _ _; refine Wp.go tabOk rfl ?_) | (show @cmpK _ _ _; (first | refine cmpY ?_ | refine cmpN ?_ | (refine cmp_both ?_ ?_ <;> intro _))) | (show wrapK _ _ _; refine wrapA ?_) | (show leK _ _ _; refine leA ?_) | (show roomK _ _ _; refine roomA ?_) | (show ltK _ _ _; refine ltA ?_) | (show _ ∧ _; refine ⟨?_, ?_⟩) | (show keepK _ _ _ _ _; refine keepA ?_) | refine own_keep ?_ | refine ap_old ?_))
            refine call_lowG [(10, .box (sumB none) 129), (6, .box (sumB ym) 129), (5, .ext (mapO r (mapT qt)))] 0 1 18 19 20 c ((plainV (qs) m).1) vl trueA [.lp 0 0 0 0, .c (.int .i64 (5)), .c (.int .i64 (t)), .c (.int .i64 (0)), .c (.int .i64 ((plainV (qs) m).2))] _ _ _ _ Tryz.call68 rfl rfl rfl (fun R w' h => trivial) (othF w F) (fun R w' h b hb => ((h.1.1).2 b hb).1) (fun w' ρ' F' h' => low_lay c ((plainV (qs) m).1) vl (5) (t) (0) ((plainV (qs) m).2) (by have := z1.fewC; omega) w' ρ' F' h') (fun _ _ => ?_)
            have z2 := z1.lay (5) (t) (0) ((plainV (qs) m).2)
            (repeat' ((conv => whnf) <;> first | (show callK _ 73 _ _ _ _ _; (refine call_inline tabOk Tryz.func73 rfl rfl rfl Tryz.call73 rfl (by show 2 ≤ _; decide) ?_)) | (show drawK _ 1 _ _ _ _ _ _; refine draw_tree tabOk mixed [9, 10] _ dtQI1 (by kernel_rfl) (by kernel_rfl) (by kernel_rfl) (List.Sublist.refl _) ?_) | (show doneK _ _ _ _ _; refine done_of ?_) | (show drawK _ 21 _ _ _ _ _ _; refine draw_tree tabOk mixed [] _ dtQL0 (by kernel_rfl) (by kernel_rfl) (by kernel_rfl) (List.Sublist.refl _) ?_) | (show Wp _ _ _ _ _ _ _; refine Wp.go tabOk rfl ?_) | (show @cmpK _ _ _; (first | refine cmpY ?_ | refine cmpN ?_ | (refine cmp_both ?_ ?_ <;> intro _))) | (show wrapK _ _ _; refine wrapA ?_) | (show leK _ _ _; refine leA ?_) | (show roomK _ _ _; refine roomA ?_) | (show ltK _ _ _; refine ltA ?_) | (show _ ∧ _; refine ⟨?_, ?_⟩) | (show keepK _ _ _ _ _; refine keepA ?_) | refine own_keep ?_ | refine ap_old ?_))
            all_goals (conv => whnf)
            all_goals exact ⟨(k + 1, ⟨layV ((plainV (qs) m).1) (5) (t) (0) ((plainV (qs) m).2), qt, some (((plainV (qs) m).1).code.length : Int)⟩), [(11, some 23), (12, some 24), (13, some 25)], ⟨hlt2, by rw [← hZ, ← innerV_pl (y := ⟨qs, qt, none⟩) (x := x) (i := k) hmv hune]; simp only [innerV, turnV, ht, addV], z2.mono (by show _ ≤ 500000 + 6 * base + 4 * (k + 1); omega)⟩, by show ds.l.length - (k + 1) < ds.l.length - k; omega, rfl, ⟨rfl, rfl, rfl, rfl, rfl, rfl, rfl, rfl, rfl, rfl, rfl, rfl, trivial⟩, ⟨(by repeat (first | exact List.mem_cons_self | apply List.mem_cons_of_mem)), (by repeat (first | exact List.mem_cons_self | apply List.mem_cons_of_mem)), (by repeat (first | exact List.mem_cons_self | apply List.mem_cons_of_mem)), (by repeat (first | exact List.mem_cons_self | apply List.mem_cons_of_mem)), (by repeat (first | exact List.mem_cons_self | apply List.mem_cons_of_mem)), (by repeat (first | exact List.mem_cons_self | apply List.mem_cons_of_mem)), (by repeat (first | exact List.mem_cons_self | apply List.mem_cons_of_mem)), (by repeat (first | exact List.mem_cons_self | apply List.mem_cons_of_mem)), trivial⟩, fun R w' h => ⟨⟨⟨(plainV_L ((h.1.1.1).1.1.1) (off_in (h.1.1).2)), (newL_more ((h.1.1.1).1.1.2) (h.1.1).2)⟩, (h.1.1.1).1.2⟩, (h.1.1.1).2⟩⟩
          focus
            (repeat' ((conv => whnf) <;> first | (show idxK _ _ _ _ _; refine idx_of da k hda rfl hlt2 ?_) | (show roK _ _ _; (refine ro_row0 (fun R w' h => by rw [← hda]; exact hcr _ _ h.1.2) _ _ hrow rfl ?_)) | (show pureK _ _ _; (refine slice_nil_is (ti 32 rfl) rfl (b := false) (by rw [hua]; rfl) ?_)) | (show lookK _ _ _ _ _ _ _ _; (refine look_T (by repeat (first | exact List.mem_cons_self | apply List.mem_cons_of_mem)) ht ?_)) | (show drawK _ 21 _ _ _ _ _ _; refine draw_tree tabOk mixed [] _ dtQL1 (by kernel_rfl) (by kernel_rfl) (by kernel_rfl) (List.Sublist.refl _) ?_) | (show sliceK _ _ _ _ _ _ _ _; (first | refine slice_cutV (u := u) (l := c.slots - base) (h := c.slots) (by show _ = ((c.slots - base : Nat) : Int); omega) hxl.symm (by omega) (by omega) hus.room ?_ | refine slice_cutV (u := u) (l := 0) (h := c.slots - base) rfl (by show _ = ((c.slots - base : Nat) : Int); omega) (by omega) (by omega) hus.room ?_)) | (show callK _ 129 _ _ _ _ _; (refine call_concat rfl (cutV u (c.slots - base) c.slots) (cutV u 0 (c.slots - base)) (othF w F) (fun R w' h b hb => ((h).2 b hb).1) (fun R w' h => cutV_rows (rowsA_in ((h).1.2.2 u hum)) hus.room) (fun R w' h => cutV_rows (rowsA_in ((h).1.2.2 u hum)) hus.room) (cutV_sane hus) (cutV_sane hus) (by rw [cutV_length (by omega), cutV_length (by omega)]; omega) (by rw [cutV_length (by omega), cutV_length (by omega)]; omega) (fun m hm ms => ?_))) | (show Wp _ _ _ _ _ _ _; refine Wp.go tabOk rfl ?_) | (show @cmpK _ _ _; (first | refine cmpY ?_ | refine cmpN ?_ | (refine cmp_both ?_ ?_ <;> intro _))) | (show wrapK _ _ _; refine wrapA ?_) | (show leK _ _ _; refine leA ?_) | (show roomK _ _ _; refine roomA ?_) | (show ltK _ _ _; refine ltA ?_) | (show _ ∧ _; refine ⟨?_, ?_⟩) | (show keepK _ _ _ _ _; refine keepA ?_) | refine own_keep ?_ | refine ap_old ?_))
            have hmv : m.xs = movedR c.slots base u.xs := by rw [hm, hu1, hu2]; rfl
            refine call_lowG [(10, .box (sumB (some a)) 129), (6, .box (sumB ym) 129), (5, .ext (mapO r (mapT qt)))] 0 1 11 12 13 c (qs) vl ((intsL (qs).plains).and (intsA m)) [.lp 0 0 0 0, .c m.val] _ _ _ _ Tryz.call130 rfl rfl rfl (fun R w' h => ⟨(h.1).1.1.1, off_in (h).2⟩) (othF w F) (fun R w' h b hb => ((h.1).2 b hb).1) (fun w' ρ' F' h' => low_plain c (qs) vl m ms z0.ok.plains (by have := z0.fewP; omega) w' ρ' F' h') (fun _ _ => ?_)
            have z1 := z0.plain ms
            (repeat' ((conv => whnf) <;> first | (show drawK _ 21 _ _ _ _ _ _; refine draw_tree tabOk mixed [] _ dtQL0 (by kernel_rfl) (by kernel_rfl) (by kernel_rfl) (List.Sublist.refl _) ?_) | (show Wp _ _ _ _ _ _ _; refine Wp.go tabOk rfl ?_) | (show @cmpK _ _ _; (first | refine cmpY ?_ | refine cmpN ?_ | (refine cmp_both ?_ ?_ <;> intro _))) | (show wrapK _ _ _; refine wrapA ?_) | (show leK _ _ _; refine leA ?_) | (show roomK _ _ _; refine roomA ?_) | (show ltK _ _ _; refine ltA ?_) | (show _ ∧ _; refine ⟨?_, ?_⟩) | (show keepK _ _ _ _ _; refine keepA ?_) | refine own_keep ?_ | refine ap_old ?_))
            refine call_lowG [(10, .box (sumB (some a)) 129), (6, .box (sumB ym) 129), (5, .ext (mapO r (mapT qt)))] 0 1 18 19 20 c ((plainV (qs) m).1) vl trueA [.lp 0 0 0 0, .c (.int .i64 (5)), .c (.int .i64 (t)), .c (.int .i64 (0)), .c (.int .i64 ((plainV (qs) m).2))] _ _ _ _ Tryz.call68 rfl rfl rfl (fun R w' h => trivial) (othF w F) (fun R w' h b hb => ((h.1.1).2 b hb).1) (fun w' ρ' F' h' => low_lay c ((plainV (qs) m).1) vl (5) (t) (0) ((plainV (qs) m).2) (by have := z1.fewC; omega) w' ρ' F' h') (fun _ _ => ?_)
            have z2 := z1.lay (5) (t) (0) ((plainV (qs) m).2)
            (repeat' ((conv => whnf) <;> first | (show callK _ 73 _ _ _ _ _; (refine call_inline tabOk Tryz.func73 rfl rfl rfl Tryz.call73 rfl (by show 2 ≤ _; decide) ?_)) | (show drawK _ 1 _ _ _ _ _ _; refine draw_tree tabOk mixed [9, 10] _ dtQI1 (by kernel_rfl) (by kernel_rfl) (by kernel_rfl) (List.Sublist.refl _) ?_) | (show doneK _ _ _ _ _; refine done_of ?_) | (show drawK _ 21 _ _ _ _ _ _; refine draw_tree tabOk mixed [] _ dtQL0 (by kernel_rfl) (by kernel_rfl) (by kernel_rfl) (List.Sublist.refl _) ?_) | (show Wp _ _ _ _ _ _ _; refine Wp.go tabOk rfl ?_) | (show @cmpK _ _ _; (first | refine cmpY ?_ | refine cmpN ?_ | (refine cmp_both ?_ ?_ <;> intro _))) | (show wrapK _ _ _; refine wrapA ?_) | (show leK _ _ _; refine leA ?_) | (show roomK _ _ _; refine roomA ?_) | (show ltK _ _ _; refine ltA ?_) | (show _ ∧ _; refine ⟨?_, ?_⟩) | (show keepK _ _ _ _ _; refine keepA ?_) | refine own_keep ?_ | refine ap_old ?_))
            refine call_lowG [(10, .box (sumB (some a)) 129), (6, .box (sumB ym) 129), (5, .ext (mapO r (mapT qt)))] 0 1 23 24 25 c (layV ((plainV (qs) m).1) (5) (t) (0) ((plainV (qs) m).2)) vl trueA [.lp 0 0 0 0, .c (.int .i64 (3)), .c (.int .i64 (a)), .c (.int .i64 ((((plainV (qs) m).1).code.length : Int))), .c (.int .i64 (0))] _ _ _ _ Tryz.call68 rfl rfl rfl (fun R w' h => trivial) (othF w F) (fun R w' h b hb => ((h.1.1.1).2 b hb).1) (fun w' ρ' F' h' => low_lay c (layV ((plainV (qs) m).1) (5) (t) (0) ((plainV (qs) m).2)) vl (3) (a) ((((plainV (qs) m).1).code.length : Int)) (0) (by have := z2.fewC; omega) w' ρ' F' h') (fun _ _ => ?_)
            have z3 := z2.lay (3) (a) ((((plainV (qs) m).1).code.length : Int)) (0)
            (repeat' ((conv => whnf) <;> first | (show callK _ 73 _ _ _ _ _; (refine call_inline tabOk Tryz.func73 rfl rfl rfl Tryz.call73 rfl (by show 2 ≤ _; decide) ?_)) | (show drawK _ 1 _ _ _ _ _ _; refine draw_tree tabOk mixed [9, 10] _ dtQI1 (by kernel_rfl) (by kernel_rfl) (by kernel_rfl) (List.Sublist.refl _) ?_) | (show doneK _ _ _ _ _; refine done_of ?_) | (show drawK _ 21 _ _ _ _ _ _; refine draw_tree tabOk mixed [] _ dtQL0 (by kernel_rfl) (by kernel_rfl) (by kernel_rfl) (List.Sublist.refl _) ?_) | (show Wp _ _ _ _ _ _ _; refine Wp.go tabOk rfl ?_) | (show @cmpK _ _ _; (first | refine cmpY ?_ | refine cmpN ?_ | (refine cmp_both ?_ ?_ <;> intro _))) | (show wrapK _ _ _; refine wrapA ?_) | (show leK _ _ _; refine leA ?_) | (show roomK _ _ _; refine roomA ?_) | (show ltK _ _ _; refine ltA ?_) | (show _ ∧ _; refine ⟨?_, ?_⟩) | (show keepK _ _ _ _ _; refine keepA ?_) | refine own_keep ?_ | refine ap_old ?_))
            all_goals (conv => whnf)
            all_goals exact ⟨(k + 1, ⟨layV (layV ((plainV (qs) m).1) (5) (t) (0) ((plainV (qs) m).2)) (3) (a) ((((plainV (qs) m).1).code.length : Int)) (0), qt, some ((layV ((plainV (qs) m).1) (5) (t) (0) ((plainV (qs) m).2)).code.length : Int)⟩), [(11, some 28), (12, some 29), (13, some 30)], ⟨hlt2, by rw [← hZ, ← innerV_pl (y := ⟨qs, qt, some a⟩) (x := x) (i := k) hmv hune]; simp only [innerV, turnV, ht, addV], z3.mono (by show _ ≤ 500000 + 6 * base + 4 * (k + 1); omega)⟩, by show ds.l.length - (k + 1) < ds.l.length - k; omega, rfl, ⟨rfl, rfl, rfl, rfl, rfl, rfl, rfl, rfl, rfl, rfl, rfl, rfl, trivial⟩, ⟨(by repeat (first | exact List.mem_cons_self | apply List.mem_cons_of_mem)), (by repeat (first | exact List.mem_cons_self | apply List.mem_cons_of_mem)), (by repeat (first | exact List.mem_cons_self | apply List.mem_cons_of_mem)), (by repeat (first | exact List.mem_cons_self | apply List.mem_cons_of_mem)), (by repeat (first | exact List.mem_cons_self | apply List.mem_cons_of_mem)), (by repeat (first | exact List.mem_cons_self | apply List.mem_cons_of_mem)), (by repeat (first | exact List.mem_cons_self | apply List.mem_cons_of_mem)), (by repeat (first | exact List.mem_cons_self | apply List.mem_cons_of_mem)), trivial⟩, fun R w' h => ⟨⟨⟨(plainV_L ((h.1.1.1.1).1.1.1) (off_in (h.1.1.1).2)), (newL_more ((h.1.1.1.1).1.1.2) (h.1.1.1).2)⟩, (h.1.1.1.1).1.2⟩, (h.1.1.1.1).2⟩⟩
      obtain rfl : k = ds.l.length := by omega
      rw [List.drop_length] at hZ
      have hZ : (⟨qs, qt, qm⟩ : RowV).pl = Z := hZ
      have hS : giantS c.slots base x (RowV.pl ⟨ys, yt, ym⟩) (List.take (hi - base) (List.drop base (d.l.map IntsV.xs))) = (giantV base ym ⟨qs, qt, qm⟩).pl := (giantV_pl (y := RowV.pl ⟨ys, yt, ym⟩) (hZg.trans hZ.symm)).symm
      rw [hS] at hY
      clear hS hZ hZg hcr hdmem hkl hds'
      have hkg : ds.l.length ≤ g := by omega
      rcases qm with _ | a
      focus
        (repeat' ((conv => whnf) <;> first | (show @cmpK _ _ _; refine cmp_no (by omega) ?_) | (show drawK _ 21 _ _ _ _ _ _; refine draw_tree tabOk mixed [] _ dtQL0 (by kernel_rfl) (by kernel_rfl) (by kernel_rfl) (List.Sublist.refl _) ?_) | (show Wp _ _ _ _ _ _ _; refine Wp.go tabOk rfl ?_) | (show @cmpK _ _ _; (first | refine cmpY ?_ | refine cmpN ?_ | (refine cmp_both ?_ ?_ <;> intro _))) | (show wrapK _ _ _; refine wrapA ?_) | (show leK _ _ _; refine leA ?_) | (show roomK _ _ _; refine roomA ?_) | (show ltK _ _ _; refine ltA ?_) | (show _ ∧ _; refine ⟨?_, ?_⟩) | (show keepK _ _ _ _ _; refine keepA ?_) | refine own_keep ?_ | refine ap_old ?_))
        all_goals (conv => whnf)
        all_goals exact ⟨(base + g, f', ⟨qs, qt, ym⟩), [(7, some 11), (8, some 12), (9, some 13)], ⟨by rw [← hY]; simp only [giantV], by show c.slots ≤ base + g + f'; omega, by show base + g ≤ 8192; omega, z0.mono (by show _ ≤ 500000 + 6 * (base + g); omega)⟩, by show c.slots - (base + g) < c.slots - base; omega, rfl, ⟨rfl, rfl, rfl, rfl, rfl, rfl, rfl, rfl, trivial⟩, ⟨(by repeat (first | exact List.mem_cons_self | apply List.mem_cons_of_mem)), (by repeat (first | exact List.mem_cons_self | apply List.mem_cons_of_mem)), (by repeat (first | exact List.mem_cons_self | apply List.mem_cons_of_mem)), (by repeat (first | exact List.mem_cons_self | apply List.mem_cons_of_mem)), (by repeat (first | exact List.mem_cons_self | apply List.mem_cons_of_mem)), (by repeat (first | exact List.mem_cons_self | apply List.mem_cons_of_mem)), (by repeat (first | exact List.mem_cons_self | apply List.mem_cons_of_mem)), trivial⟩, fun R w' h => ⟨⟨⟨(h).1.1.1, (h).1.1.2⟩, (h).1.2⟩, (h).2⟩⟩
      rcases Nat.lt_or_ge 0 base with hb | hb
      focus
        rcases ym with _ | b
        focus
          (repeat' ((conv => whnf) <;> first | (show @cmpK _ _ _; refine cmp_yes (by omega) ?_) | (show drawK _ 21 _ _ _ _ _ _; refine draw_tree tabOk mixed [] _ dtQL0 (by kernel_rfl) (by kernel_rfl) (by kernel_rfl) (List.Sublist.refl _) ?_) | (show Wp _ _ _ _ _ _ _; refine Wp.go tabOk rfl ?_) | (show @cmpK _ _ _; (first | refine cmpY ?_ | refine cmpN ?_ | (refine cmp_both ?_ ?_ <;> intro _))) | (show wrapK _ _ _; refine wrapA ?_) | (show leK _ _ _; refine leA ?_) | (show roomK _ _ _; refine roomA ?_) | (show ltK _ _ _; refine ltA ?_) | (show _ ∧ _; refine ⟨?_, ?_⟩) | (show keepK _ _ _ _ _; refine keepA ?_) | refine own_keep ?_ | refine ap_old ?_))
          refine call_lowG [(10, .box (sumB (some a)) 129), (6, .box (sumB none) 129), (5, .ext (mapO r (mapT qt)))] 0 1 11 12 13 c (qs) vl trueA [.lp 0 0 0 0, .c (.int .i64 (8)), .c (.int .i64 (a)), .c (.int .i64 (0)), .c (.int .i64 (base))] _ _ _ _ Tryz.call68 rfl rfl rfl (fun R w' h => trivial) (othF w F) (fun R w' h b hb => ((h).2 b hb).1) (fun w' ρ' F' h' => low_lay c (qs) vl (8) (a) (0) (base) (by have := z0.fewC; omega) w' ρ' F' h') (fun _ _ => ?_)
          have z1 := z0.lay (8) (a) (0) (base)
          (repeat' ((conv => whnf) <;> first | (show @cmpK _ _ _; refine cmp_yes (by omega) ?_) | (show callK _ 73 _ _ _ _ _; (refine call_inline tabOk Tryz.func73 rfl rfl rfl Tryz.call73 rfl (by show 2 ≤ _; decide) ?_)) | (show drawK _ 1 _ _ _ _ _ _; refine draw_tree tabOk mixed [9, 10] _ dtQI1 (by kernel_rfl) (by kernel_rfl) (by kernel_rfl) (List.Sublist.refl _) ?_) | (show doneK _ _ _ _ _; refine done_of ?_) | (show drawK _ 21 _ _ _ _ _ _; refine draw_tree tabOk mixed [] _ dtQL0 (by kernel_rfl) (by kernel_rfl) (by kernel_rfl) (List.Sublist.refl _) ?_) | (show Wp _ _ _ _ _ _ _; refine Wp.go tabOk rfl ?_) | (show @cmpK _ _ _; (first | refine cmpY ?_ | refine cmpN ?_ | (refine cmp_both ?_ ?_ <;> intro _))) | (show wrapK _ _ _; refine wrapA ?_) | (show leK _ _ _; refine leA ?_) | (show roomK _ _ _; refine roomA ?_) | (show ltK _ _ _; refine ltA ?_) | (show _ ∧ _; refine ⟨?_, ?_⟩) | (show keepK _ _ _ _ _; refine keepA ?_) | refine own_keep ?_ | refine ap_old ?_))
          all_goals (conv => whnf)
          all_goals exact ⟨(base + g, f', ⟨layV (qs) (8) (a) (0) (base), qt, some ((qs).code.length : Int)⟩), [(7, some 16), (8, some 17), (9, some 18)], ⟨by rw [← hY]; simp only [giantV, addV, if_pos hb], by show c.slots ≤ base + g + f'; omega, by show base + g ≤ 8192; omega, z1.mono (by show _ ≤ 500000 + 6 * (base + g); omega)⟩, by show c.slots - (base + g) < c.slots - base; omega, rfl, ⟨rfl, rfl, rfl, rfl, rfl, rfl, rfl, rfl, trivial⟩, ⟨(by repeat (first | exact List.mem_cons_self | apply List.mem_cons_of_mem)), (by repeat (first | exact List.mem_cons_self | apply List.mem_cons_of_mem)), (by repeat (first | exact List.mem_cons_self | apply List.mem_cons_of_mem)), (by repeat (first | exact List.mem_cons_self | apply List.mem_cons_of_mem)), (by repeat (first | exact List.mem_cons_self | apply List.mem_cons_of_mem)), (by repeat (first | exact List.mem_cons_self | apply List.mem_cons_of_mem)), (by repeat (first | exact List.mem_cons_self | apply List.mem_cons_of_mem)), trivial⟩, fun R w' h => ⟨⟨⟨(h.1).1.1.1, (h.1).1.1.2⟩, (h.1).1.2⟩, (h.1).2⟩⟩
        focus
          (repeat' ((conv => whnf) <;> first | (show @cmpK _ _ _; refine cmp_yes (by omega) ?_) | (show drawK _ 21 _ _ _ _ _ _; refine draw_tree tabOk mixed [] _ dtQL0 (by kernel_rfl) (by kernel_rfl) (by kernel_rfl) (List.Sublist.refl _) ?_) | (show Wp _ _ _ _ _ _ _; refine Wp.go tabOk rfl ?_) | (show @cmpK _ _ _; (first | refine cmpY ?_ | refine cmpN ?_ | (refine cmp_both ?_ ?_ <;> intro _))) | (show wrapK _ _ _; refine wrapA ?_) | (show leK _ _ _; refine leA ?_) | (show roomK _ _ _; refine roomA ?_) | (show ltK _ _ _; refine ltA ?_) | (show _ ∧ _; refine ⟨?_, ?_⟩) | (show keepK _ _ _ _ _; refine keepA ?_) | refine own_keep ?_ | refine ap_old ?_))
          refine call_lowG [(10, .box (sumB (some a)) 129), (6, .box (sumB (some b)) 129), (5, .ext (mapO r (mapT qt)))] 0 1 11 12 13 c (qs) vl trueA [.lp 0 0 0 0, .c (.int .i64 (8)), .c (.int .i64 (a)), .c (.int .i64 (0)), .c (.int .i64 (base))] _ _ _ _ Tryz.call68 rfl rfl rfl (fun R w' h => trivial) (othF w F) (fun R w' h b hb => ((h).2 b hb).1) (fun w' ρ' F' h' => low_lay c (qs) vl (8) (a) (0) (base) (by have := z0.fewC; omega) w' ρ' F' h') (fun _ _ => ?_)
          have z1 := z0.lay (8) (a) (0) (base)
          (repeat' ((conv => whnf) <;> first | (show @cmpK _ _ _; refine cmp_yes (by omega) ?_) | (show callK _ 73 _ _ _ _ _; (refine call_inline tabOk Tryz.func73 rfl rfl rfl Tryz.call73 rfl (by show 2 ≤ _; decide) ?_)) | (show drawK _ 1 _ _ _ _ _ _; refine draw_tree tabOk mixed [9, 10] _ dtQI1 (by kernel_rfl) (by kernel_rfl) (by kernel_rfl) (List.Sublist.refl _) ?_) | (show doneK _ _ _ _ _; refine done_of ?_) | (show drawK _ 21 _ _ _ _ _ _; refine draw_tree tabOk mixed [] _ dtQL0 (by kernel_rfl) (by kernel_rfl) (by kernel_rfl) (List.Sublist.refl _) ?_) | (show Wp _ _ _ _ _ _ _; refine Wp.go tabOk rfl ?_) | (show @cmpK _ _ _; (first | refine cmpY ?_ | refine cmpN ?_ | (refine cmp_both ?_ ?_ <;> intro _))) | (show wrapK _ _ _; refine wrapA ?_) | (show leK _ _ _; refine leA ?_) | (show roomK _ _ _; refine roomA ?_) | (show ltK _ _ _; refine ltA ?_) | (show _ ∧ _; refine ⟨?_, ?_⟩) | (show keepK _ _ _ _ _; refine keepA ?_) | refine own_keep ?_ | refine ap_old ?_))
          refine call_lowG [(10, .box (sumB (some ((qs).code.length : Int))) 129), (6, .box (sumB (some b)) 129), (5, .ext (mapO r (mapT qt)))] 0 1 16 17 18 c (layV (qs) (8) (a) (0) (base)) vl trueA [.lp 0 0 0 0, .c (.int .i64 (3)), .c (.int .i64 (b)), .c (.int .i64 (((qs).code.length : Int))), .c (.int .i64 (0))] _ _ _ _ Tryz.call68 rfl rfl rfl (fun R w' h => trivial) (othF w F) (fun R w' h b hb => ((h.1).2 b hb).1) (fun w' ρ' F' h' => low_lay c (layV (qs) (8) (a) (0) (base)) vl (3) (b) (((qs).code.length : Int)) (0) (by have := z1.fewC; omega) w' ρ' F' h') (fun _ _ => ?_)
          have z2 := z1.lay (3) (b) (((qs).code.length : Int)) (0)
          (repeat' ((conv => whnf) <;> first | (show callK _ 73 _ _ _ _ _; (refine call_inline tabOk Tryz.func73 rfl rfl rfl Tryz.call73 rfl (by show 2 ≤ _; decide) ?_)) | (show drawK _ 1 _ _ _ _ _ _; refine draw_tree tabOk mixed [9, 10] _ dtQI1 (by kernel_rfl) (by kernel_rfl) (by kernel_rfl) (List.Sublist.refl _) ?_) | (show doneK _ _ _ _ _; refine done_of ?_) | (show drawK _ 21 _ _ _ _ _ _; refine draw_tree tabOk mixed [] _ dtQL0 (by kernel_rfl) (by kernel_rfl) (by kernel_rfl) (List.Sublist.refl _) ?_) | (show Wp _ _ _ _ _ _ _; refine Wp.go tabOk rfl ?_) | (show @cmpK _ _ _; (first | refine cmpY ?_ | refine cmpN ?_ | (refine cmp_both ?_ ?_ <;> intro _))) | (show wrapK _ _ _; refine wrapA ?_) | (show leK _ _ _; refine leA ?_) | (show roomK _ _ _; refine roomA ?_) | (show ltK _ _ _; refine ltA ?_) | (show _ ∧ _; refine ⟨?_, ?_⟩) | (show keepK _ _ _ _ _; refine keepA ?_) | refine own_keep ?_ | refine ap_old ?_))
          all_goals (conv => whnf)
          all_goals exact ⟨(base + g, f', ⟨layV (layV (qs) (8) (a) (0) (base)) (3) (b) (((qs).code.length : Int)) (0), qt, some ((layV (qs) (8) (a) (0) (base)).code.length : Int)⟩), [(7, some 21), (8, some 22), (9, some 23)], ⟨by rw [← hY]; simp only [giantV, addV, if_pos hb], by show c.slots ≤ base + g + f'; omega, by show base + g ≤ 8192; omega, z2.mono (by show _ ≤ 500000 + 6 * (base + g); omega)⟩, by show c.slots - (base + g) < c.slots - base; omega, rfl, ⟨rfl, rfl, rfl, rfl, rfl, rfl, rfl, rfl, trivial⟩, ⟨(by repeat (first | exact List.mem_cons_self | apply List.mem_cons_of_mem)), (by repeat (first | exact List.mem_cons_self | apply List.mem_cons_of_mem)), (by repeat (first | exact List.mem_cons_self | apply List.mem_cons_of_mem)), (by repeat (first | exact List.mem_cons_self | apply List.mem_cons_of_mem)), (by repeat (first | exact List.mem_cons_self | apply List.mem_cons_of_mem)), (by repeat (first | exact List.mem_cons_self | apply List.mem_cons_of_mem)), (by repeat (first | exact List.mem_cons_self | apply List.mem_cons_of_mem)), trivial⟩, fun R w' h => ⟨⟨⟨(h.1.1).1.1.1, (h.1.1).1.1.2⟩, (h.1.1).1.2⟩, (h.1.1).2⟩⟩
      focus
        have hb : ¬ 0 < base := by omega
        rcases ym with _ | b
        focus
          (repeat' ((conv => whnf) <;> first | (show @cmpK _ _ _; refine cmp_no (by omega) ?_) | (show callK _ 73 _ _ _ _ _; (refine call_inline tabOk Tryz.func73 rfl rfl rfl Tryz.call73 rfl (by show 2 ≤ _; decide) ?_)) | (show drawK _ 1 _ _ _ _ _ _; refine draw_tree tabOk mixed [9, 10] _ dtQI1 (by kernel_rfl) (by kernel_rfl) (by kernel_rfl) (List.Sublist.refl _) ?_) | (show doneK _ _ _ _ _; refine done_of ?_) | (show drawK _ 21 _ _ _ _ _ _; refine draw_tree tabOk mixed [] _ dtQL0 (by kernel_rfl) (by kernel_rfl) (by kernel_rfl) (List.Sublist.refl _) ?_) | (show Wp _ _ _ _ _ _ _; refine Wp.go tabOk rfl ?_) | (show @cmpK _ _ _; (first | refine cmpY ?_ | refine cmpN ?_ | (refine cmp_both ?_ ?_ <;> intro _))) | (show wrapK _ _ _; refine wrapA ?_) | (show leK _ _ _; refine leA ?_) | (show roomK _ _ _; refine roomA ?_) | (show ltK _ _ _; refine ltA ?_) | (show _ ∧ _; refine ⟨?_, ?_⟩) | (show keepK _ _ _ _ _; refine keepA ?_) | refine own_keep ?_ | refine ap_old ?_))
          all_goals (conv => whnf)
          all_goals exact ⟨(base + g, f', ⟨qs, qt, some a⟩), [(7, some 11), (8, some 12), (9, some 13)], ⟨by rw [← hY]; simp only [giantV, addV, if_neg hb], by show c.slots ≤ base + g + f'; omega, by show base + g ≤ 8192; omega, z0.mono (by show _ ≤ 500000 + 6 * (base + g); omega)⟩, by show c.slots - (base + g) < c.slots - base; omega, rfl, ⟨rfl, rfl, rfl, rfl, rfl, rfl, rfl, rfl, trivial⟩, ⟨(by repeat (first | exact List.mem_cons_self | apply List.mem_cons_of_mem)), (by repeat (first | exact List.mem_cons_self | apply List.mem_cons_of_mem)), (by repeat (first | exact List.mem_cons_self | apply List.mem_cons_of_mem)), (by repeat (first | exact List.mem_cons_self | apply List.mem_cons_of_mem)), (by repeat (first | exact List.mem_cons_self | apply List.mem_cons_of_mem)), (by repeat (first | exact List.mem_cons_self | apply List.mem_cons_of_mem)), (by repeat (first | exact List.mem_cons_self | apply List.mem_cons_of_mem)), trivial⟩, fun R w' h => ⟨⟨⟨(h).1.1.1, (h).1.1.2⟩, (h).1.2⟩, (h).2⟩⟩
        focus
          (repeat' ((conv => whnf) <;> first | (show @cmpK _ _ _; refine cmp_no (by omega) ?_) | (show callK _ 73 _ _ _ _ _; (refine call_inline tabOk Tryz.func73 rfl rfl rfl Tryz.call73 rfl (by show 2 ≤ _; decide) ?_)) | (show drawK _ 1 _ _ _ _ _ _; refine draw_tree tabOk mixed [9, 10] _ dtQI1 (by kernel_rfl) (by kernel_rfl) (by kernel_rfl) (List.Sublist.refl _) ?_) | (show doneK _ _ _ _ _; refine done_of ?_) | (show drawK _ 21 _ _ _ _ _ _; refine draw_tree tabOk mixed [] _ dtQL0 (by kernel_rfl) (by kernel_rfl) (by kernel_rfl) (List.Sublist.refl _) ?_) | (show Wp _ _ _ _ _ _ _; refine Wp.go tabOk rfl ?_) | (show @cmpK _ _ _; (first | refine cmpY ?_ | refine cmpN ?_ | (refine cmp_both ?_ ?_ <;> intro _))) | (show wrapK _ _ _; refine wrapA ?_) | (show leK _ _ _; refine leA ?_) | (show roomK _ _ _; refine roomA ?_) | (show ltK _ _ _; refine ltA ?_) | (show _ ∧ _; refine ⟨?_, ?_⟩) | (show keepK _ _ _ _ _; refine keepA ?_) | refine own_keep ?_ | refine ap_old ?_))
          refine call_lowG [(10, .box (sumB (some a)) 129), (6, .box (sumB (some b)) 129), (5, .ext (mapO r (mapT qt)))] 0 1 11 12 13 c (qs) vl trueA [.lp 0 0 0 0, .c (.int .i64 (3)), .c (.int .i64 (b)), .c (.int .i64 (a)), .c (.int .i64 (0))] _ _ _ _ Tryz.call68 rfl rfl rfl (fun R w' h => trivial) (othF w F) (fun R w' h b hb => ((h).2 b hb).1) (fun w' ρ' F' h' => low_lay c (qs) vl (3) (b) (a) (0) (by have := z0.fewC; omega) w' ρ' F' h') (fun _ _ => ?_)
          have z1 := z0.lay (3) (b) (a) (0)
          (repeat' ((conv => whnf) <;> first | (show callK _ 73 _ _ _ _ _; (refine call_inline tabOk Tryz.func73 rfl rfl rfl Tryz.call73 rfl (by show 2 ≤ _; decide) ?_)) | (show drawK _ 1 _ _ _ _ _ _; refine draw_tree tabOk mixed [9, 10] _ dtQI1 (by kernel_rfl) (by kernel_rfl) (by kernel_rfl) (List.Sublist.refl _) ?_) | (show doneK _ _ _ _ _; refine done_of ?_) | (show drawK _ 21 _ _ _ _ _ _; refine draw_tree tabOk mixed [] _ dtQL0 (by kernel_rfl) (by kernel_rfl) (by kernel_rfl) (List.Sublist.refl _) ?_) | (show Wp _ _ _ _ _ _ _; refine Wp.go tabOk rfl ?_) | (show @cmpK _ _ _; (first | refine cmpY ?_ | refine cmpN ?_ | (refine cmp_both ?_ ?_ <;> intro _))) | (show wrapK _ _ _; refine wrapA ?_) | (show leK _ _ _; refine leA ?_) | (show roomK _ _ _; refine roomA ?_) | (show ltK _ _ _; refine ltA ?_) | (show _ ∧ _; refine ⟨?_, ?_⟩) | (show keepK _ _ _ _ _; refine keepA ?_) | refine own_keep ?_ | refine ap_old ?_))
          all_goals (conv => whnf)
          all_goals exact ⟨(base + g, f', ⟨layV (qs) (3) (b) (a) (0), qt, some ((qs).code.length : Int)⟩), [(7, some 16), (8, some 17), (9, some 18)], ⟨by rw [← hY]; simp only [giantV, addV, if_neg hb], by show c.slots ≤ base + g + f'; omega, by show base + g ≤ 8192; omega, z1.mono (by show _ ≤ 500000 + 6 * (base + g); omega)⟩, by show c.slots - (base + g) < c.slots - base; omega, rfl, ⟨rfl, rfl, rfl, rfl, rfl, rfl, rfl, rfl, trivial⟩, ⟨(by repeat (first | exact List.mem_cons_self | apply List.mem_cons_of_mem)), (by repeat (first | exact List.mem_cons_self | apply List.mem_cons_of_mem)), (by repeat (first | exact List.mem_cons_self | apply List.mem_cons_of_mem)), (by repeat (first | exact List.mem_cons_self | apply List.mem_cons_of_mem)), (by repeat (first | exact List.mem_cons_self | apply List.mem_cons_of_mem)), (by repeat (first | exact List.mem_cons_self | apply List.mem_cons_of_mem)), (by repeat (first | exact List.mem_cons_self | apply List.mem_cons_of_mem)), trivial⟩, fun R w' h => ⟨⟨⟨(h.1).1.1.1, (h.1).1.1.2⟩, (h.1).1.2⟩, (h.1).2⟩⟩
    rw [giantL_end hlt] at hY
    subst hY
    rw [← hgv] at hY0
    rcases ym with _ | a
    focus
      (repeat' ((conv => whnf) <;> first | (show @cmpK _ _ _; refine cmp_no (by omega) ?_) | (show drawK _ 21 _ _ _ _ _ _; refine draw_tree tabOk mixed [] _ dtQL0 (by kernel_rfl) (by kernel_rfl) (by kernel_rfl) (List.Sublist.refl _) ?_) | (show Wp _ _ _ _ _ _ _; refine Wp.go tabOk rfl ?_) | (show @cmpK _ _ _; (first | refine cmpY ?_ | refine cmpN ?_ | (refine cmp_both ?_ ?_ <;> intro _))) | (show wrapK _ _ _; refine wrapA ?_) | (show leK _ _ _; refine leA ?_) | (show roomK _ _ _; refine roomA ?_) | (show ltK _ _ _; refine ltA ?_) | (show _ ∧ _; refine ⟨?_, ?_⟩) | (show keepK _ _ _ _ _; refine keepA ?_) | refine own_keep ?_ | refine ap_old ?_))
      refine call_lowG [(6, .box (sumB none) 129), (5, .ext (mapO r (mapT yt)))] 0 1 7 8 9 c (ys) vl (intsL (ys).plains) [.lp 0 0 0 0, .c (.int .i64 (x))] _ _ _ _ Tryz.call74 rfl rfl rfl (fun R w' h => (h).1.1.1) (othF w F) (fun R w' h b hb => ((h).2 b hb).1) (fun w' ρ' F' h' => low_zero c (ys) vl (x) hn2 z0.ok.plains (by have := z0.fewP; omega) (by have := z0.fewC; omega) w' ρ' F' h') (fun u ⟨hu, hsu⟩ => ?_)
      have z1 := z0.zero hsu (x)
      (repeat' ((conv => whnf) <;> first | (show drawK _ 21 _ _ _ _ _ _; refine draw_tree tabOk mixed [] _ dtQL0 (by kernel_rfl) (by kernel_rfl) (by kernel_rfl) (List.Sublist.refl _) ?_) | (show Wp _ _ _ _ _ _ _; refine Wp.go tabOk rfl ?_) | (show @cmpK _ _ _; (first | refine cmpY ?_ | refine cmpN ?_ | (refine cmp_both ?_ ?_ <;> intro _))) | (show wrapK _ _ _; refine wrapA ?_) | (show leK _ _ _; refine leA ?_) | (show roomK _ _ _; refine roomA ?_) | (show ltK _ _ _; refine ltA ?_) | (show _ ∧ _; refine ⟨?_, ?_⟩) | (show keepK _ _ _ _ _; refine keepA ?_) | refine own_keep ?_ | refine ap_old ?_))
      all_goals (conv => whnf)
      have e : lowRows c.slots c.giant s.pl x (d.l.map IntsV.xs) = ((zeroV (ys) u (x)).pl, ((ys).code.length : Int)) := by unfold lowRows; rw [hY0]; exact lowZero_pl hu
      all_goals exact obj_end _ _ _ _ (zeroV (ys) u (x), (((ys).code.length : Int) : Int)) [(2, some 12), (3, some 13), (4, some 14)] ⟨(congrArg Prod.fst e).symm, (congrArg Prod.snd e).symm, z1.ok⟩ (by decide) rfl rfl rfl rfl ⟨(by repeat (first | exact List.mem_cons_self | apply List.mem_cons_of_mem)), (by repeat (first | exact List.mem_cons_self | apply List.mem_cons_of_mem)), (by repeat (first | exact List.mem_cons_self | apply List.mem_cons_of_mem)), (by repeat (first | exact List.mem_cons_self | apply List.mem_cons_of_mem)), (by repeat (first | exact List.mem_cons_self | apply List.mem_cons_of_mem)), trivial⟩ (fun R w' h => ⟨(h.1).2, (newL_more ((h.1).1.1.2) (h).2)⟩)
    focus
      (repeat' ((conv => whnf) <;> first | (show @cmpK _ _ _; refine cmp_no (by omega) ?_) | (show drawK _ 21 _ _ _ _ _ _; refine draw_tree tabOk mixed [] _ dtQL0 (by kernel_rfl) (by kernel_rfl) (by kernel_rfl) (List.Sublist.refl _) ?_) | (show Wp _ _ _ _ _ _ _; refine Wp.go tabOk rfl ?_) | (show @cmpK _ _ _; (first | refine cmpY ?_ | refine cmpN ?_ | (refine cmp_both ?_ ?_ <;> intro _))) | (show wrapK _ _ _; refine wrapA ?_) | (show leK _ _ _; refine leA ?_) | (show roomK _ _ _; refine roomA ?_) | (show ltK _ _ _; refine ltA ?_) | (show _ ∧ _; refine ⟨?_, ?_⟩) | (show keepK _ _ _ _ _; refine keepA ?_) | refine own_keep ?_ | refine ap_old ?_))
      all_goals (conv => whnf)
      have e : lowRows c.slots c.giant s.pl x (d.l.map IntsV.xs) = ((ys).pl, a) := by unfold lowRows; rw [hY0]; rfl
      all_goals exact obj_end _ _ _ _ (ys, (a : Int)) [(2, some 7), (3, some 8), (4, some 9)] ⟨(congrArg Prod.fst e).symm, (congrArg Prod.snd e).symm, z0.ok⟩ (by decide) rfl rfl rfl rfl ⟨(by repeat (first | exact List.mem_cons_self | apply List.mem_cons_of_mem)), (by repeat (first | exact List.mem_cons_self | apply List.mem_cons_of_mem)), (by repeat (first | exact List.mem_cons_self | apply List.mem_cons_of_mem)), (by repeat (first | exact List.mem_cons_self | apply List.mem_cons_of_mem)), (by repeat (first | exact List.mem_cons_self | apply List.mem_cons_of_mem)), trivial⟩ (fun R w' h => ⟨(h).2, (h).1.1.2⟩)
end Go.Proofs.YtgndjjdeopfdkaaGreat

/- JE -/
namespace Go.Proofs.YtgndjjdeopfdkaaGreat
open Go.SX Go.RowKit
def setT (r : List Int) (t : Sp) : List Int := r.set t.2.toNat t.1
end Go.Proofs.YtgndjjdeopfdkaaGreat

/- JF -/
namespace Go.Proofs.YtgndjjdeopfdkaaGreat
open Go.SX Go.RowKit
def matRow (n : NodeV) (tl : List Int) (o : Nat) : List Int :=
  if n.kind = 3 then (n.data.xs.drop (o * (entries tl).toNat)).take (entries tl).toNat else (termsG n tl o).foldl setT (List.replicate (entries tl).toNat 0)
/-- a node's sizes, of the kind of a convolution -/
structure ConvIn (n : NodeV) (t : List Int) : Prop where
  k2 : 1 ≤ n.shape.xs.getD 2 0 ∧ n.shape.xs.getD 2 0 ≤ t.getD 1 0
  k3 : 1 ≤ n.shape.xs.getD 3 0 ∧ n.shape.xs.getD 3 0 ≤ t.getD 2 0
theorem conv_in {n : NodeV} {sh : List (List Int)} {s t : List Int} {cnt : Nat} (h : PlaceIn n sh s t cnt) (hk : n.kind = 4) : ConvIn n t := by
  have hsh := h.node.shape
  have hker := (formed_of h.node.form).kern hk
  obtain ⟨hl4, hdim⟩ := kernel_dims hker
  have dm2 := hdim _ (getD_mem (xs := n.shape.xs) (k := 2) (by omega))
  have dm3 := hdim _ (getD_mem (xs := n.shape.xs) (k := 3) (by omega))
  unfold shapeO at hsh
  rw [if_neg (by omega), if_neg (by omega), if_pos hk, (h.first (.inr (.inl hk))).1] at hsh
  split at hsh
  · cases hsh
  · exact ⟨by omega, by omega⟩
structure PoolIn (n : NodeV) (t : List Int) : Prop where
  z : 1 ≤ n.size
  z1 : n.size ≤ t.getD 1 0
  z2 : n.size ≤ t.getD 2 0
  m1 : t.getD 1 0 % n.size = 0
  m2 : t.getD 2 0 % n.size = 0
theorem pool_in {n : NodeV} {sh : List (List Int)} {s t : List Int} {cnt : Nat} (h : PlaceIn n sh s t cnt) (hk : n.kind = 5) : PoolIn n t := by
  have hsh := h.node.shape
  have hz := (formed_of h.node.form).pool hk
  obtain ⟨hf, hg⟩ := h.first (.inr (.inr hk))
  unfold shapeO at hsh
  rw [if_neg (by omega), if_neg (by omega), if_neg (by omega), if_pos hk, hf] at hsh
  split at hsh
  · cases hsh
  · rename_i hbad
    have tdm := (entries_dims hg).2.2
    have td1 := tdm _ (getD_mem (xs := t) (k := 1) (by omega))
    have td2 := tdm _ (getD_mem (xs := t) (k := 2) (by omega))
    have m1 : t.getD 1 0 % n.size = 0 := by omega
    have m2 : t.getD 2 0 % n.size = 0 := by omega
    refine ⟨by omega, ?_, ?_, m1, m2⟩
    · rcases (by omega : t.getD 1 0 < n.size ∨ n.size ≤ t.getD 1 0) with hlt | hge
      · rw [Int.emod_eq_of_lt (by omega) hlt] at m1; omega
      · exact hge
    · rcases (by omega : t.getD 2 0 < n.size ∨ n.size ≤ t.getD 2 0) with hlt | hge
      · rw [Int.emod_eq_of_lt (by omega) hlt] at m2; omega
      · exact hge
end Go.Proofs.YtgndjjdeopfdkaaGreat

/- JG -/
namespace Go.Proofs.YtgndjjdeopfdkaaGreat
open Go.SX Go.RowKit
/-- what Matrix hands back -/
structure MatV where
  rows : ShapesV
  bias : IntsV
  own : Bool
def MatV.val (x : MatV) : Value := .tuple #[x.rows.val, x.bias.val]
end Go.Proofs.YtgndjjdeopfdkaaGreat

/- JH -/
namespace Go.Proofs.YtgndjjdeopfdkaaGreat
open Go.SX Go.RowKit
end Go.Proofs.YtgndjjdeopfdkaaGreat

/- JI -/
namespace Go.Proofs.YtgndjjdeopfdkaaGreat
open Go.SX Go.RowKit
/-- rows so far -/
structure Sofar3 (n : NodeV) (tl : List Int) (us : List IntsV) (o : Nat) : Prop where
  rows : us.map IntsV.xs = (List.range o).map (matRow n tl)
  sane : ∀ u ∈ us, u.sane
theorem Sofar3.len {n : NodeV} {tl : List Int} {us : List IntsV} {o : Nat} (h : Sofar3 n tl us o) : us.length = o := by
  have := congrArg List.length h.rows
  simpa using this
theorem Sofar3.next {n : NodeV} {tl : List Int} {us : List IntsV} {o : Nat} {u : IntsV} (h : Sofar3 n tl us o) (hu : u.sane) (hx : u.xs = matRow n tl o) : Sofar3 n tl (us ++ [u]) (o + 1) := by
  refine ⟨by rw [List.map_append, h.rows, List.range_succ, List.map_append, List.map_cons, List.map_nil, List.map_cons, List.map_nil, hx], fun v hv => ?_⟩
  rcases List.mem_append.1 hv with hv | hv
  · exact h.sane v hv
  · rw [List.mem_singleton.1 hv]; exact hu
end Go.Proofs.YtgndjjdeopfdkaaGreat

/- JJ -/
namespace Go.Proofs.YtgndjjdeopfdkaaGreat
open Go.SX Go.RowKit
end Go.Proofs.YtgndjjdeopfdkaaGreat

/- JK -/
namespace Go.Proofs.YtgndjjdeopfdkaaGreat
open Go.SX Go.RowKit
theorem lin_lt {o k1 c k0 : Int} (ho : 0 ≤ o ∧ o < k0) (hc : 0 ≤ c ∧ c < k1) : o * k1 + c < k0 * k1 := by
  have u : (o + 1) * k1 ≤ k0 * k1 := Int.mul_le_mul_of_nonneg_right (by omega) (by omega)
  rw [Int.add_mul, Int.one_mul] at u
  omega
structure SofarC (n : NodeV) (tl : List Int) (cnt : Nat) (us : List IntsV) (bs : List Int) (m : Nat) : Prop where
  rows : Sofar3 n tl us m
  bias : bs = (List.range m).map (biasI n cnt)
theorem SofarC.next {n : NodeV} {tl : List Int} {cnt : Nat} {us : List IntsV} {bs : List Int} {m : Nat} {u : IntsV} {b : Int} (h : SofarC n tl cnt us bs m) (hu : u.sane) (hx : u.xs = matRow n tl m) (hb : biasI n cnt m = b) : SofarC n tl cnt (us ++ [u]) (bs ++ [b]) (m + 1) :=
  ⟨h.rows.next hu hx, by rw [h.bias, ← hb, List.range_succ, List.map_append]; rfl⟩
end Go.Proofs.YtgndjjdeopfdkaaGreat

/- JL -/
namespace Go.Proofs.YtgndjjdeopfdkaaGreat
open Go.SX Go.RowKit
end Go.Proofs.YtgndjjdeopfdkaaGreat

/- JM -/
namespace Go.Proofs.YtgndjjdeopfdkaaGreat
open Go.SX Go.RowKit
end Go.Proofs.YtgndjjdeopfdkaaGreat

/- MG -/
namespace Go.Proofs.YtgndjjdeopfdkaaGreat
open Go.SX Go.RowKit
def wgtI (n : NodeV) (tl : List Int) (o i : Int) : Int :=
  if n.kind = 3 then n.data.xs.getD (o * entries tl + i).toNat 0
  else if n.kind = 4 then
    (let y := i / tl.getD 2 0 % tl.getD 1 0 - o / (tl.getD 2 0 - n.shape.xs.getD 3 0 + 1) % (tl.getD 1 0 - n.shape.xs.getD 2 0 + 1)
     let x := i % tl.getD 2 0 - o % (tl.getD 2 0 - n.shape.xs.getD 3 0 + 1)
     if y < 0 ∨ n.shape.xs.getD 2 0 ≤ y ∨ x < 0 ∨ n.shape.xs.getD 3 0 ≤ x then 0
     else n.data.xs.getD (((o / (tl.getD 2 0 - n.shape.xs.getD 3 0 + 1) / (tl.getD 1 0 - n.shape.xs.getD 2 0 + 1) * n.shape.xs.getD 1 0 + i / tl.getD 2 0 / tl.getD 1 0) * n.shape.xs.getD 2 0 + y) * n.shape.xs.getD 3 0 + x).toNat 0)
  else if i / tl.getD 2 0 / tl.getD 1 0 ≠ o / (tl.getD 2 0 / n.size) / (tl.getD 1 0 / n.size) ∨ i / tl.getD 2 0 % tl.getD 1 0 / n.size ≠ o / (tl.getD 2 0 / n.size) % (tl.getD 1 0 / n.size) ∨ i % tl.getD 2 0 / n.size ≠ o % (tl.getD 2 0 / n.size) then 0 else 1
theorem pos_split {i I1 I2 : Int} (h0 : 0 ≤ i) (h1 : 0 < I1) (h2 : 0 < I2) : i = (i / I2 / I1 * I1 + i / I2 % I1) * I2 + i % I2 ∧ (0 ≤ i % I2 ∧ i % I2 < I2) ∧ (0 ≤ i / I2 % I1 ∧ i / I2 % I1 < I1) ∧ 0 ≤ i / I2 / I1 := by
  have e1 := Int.mul_ediv_add_emod i I2
  have e2 := Int.mul_ediv_add_emod (i / I2) I1
  have g0 : 0 ≤ i / I2 := Int.ediv_nonneg h0 (by omega)
  refine ⟨?_, ⟨Int.emod_nonneg _ (by omega), Int.emod_lt_of_pos _ h2⟩, ⟨Int.emod_nonneg _ (by omega), Int.emod_lt_of_pos _ h1⟩, Int.ediv_nonneg g0 (by omega)⟩
  have e3 : i / I2 / I1 * I1 + i / I2 % I1 = i / I2 := by rw [Int.mul_comm]; exact e2
  rw [e3, Int.mul_comm]; exact e1.symm
theorem div_lt_of {a b c : Int} (hb : 0 < b) (h : a < c * b) : a / b < c := Int.ediv_lt_of_lt_mul hb h
end Go.Proofs.YtgndjjdeopfdkaaGreat

/- MH -/
namespace Go.Proofs.YtgndjjdeopfdkaaGreat
open Go.SX Go.RowKit
end Go.Proofs.YtgndjjdeopfdkaaGreat

/- MI -/
namespace Go.Proofs.YtgndjjdeopfdkaaGreat
abbrev dtMI1 : Go.SX.DT := (.take 0 (.take 1 (.take 2 (.take 3 (.take 4 (.take 5 (.take 6 (.take 7 (.take 8 (.take 9 (.take 10 (.take 11 (.take 12 (.take 13 (.take 14 (.alt 15 (.one 16 (.one 17 (.done))) (.one 16 (.one 15 (.one 17 (.done))))))))))))))))))))
open Go.SX Go.RowKit
theorem div_isM {x y q : Int} {K : Int → Prop} (e : x / y = q) (h0 : 0 ≤ x) (h1 : x ≤ 9223372036854775807) (hy : 0 < y) (h : K q) : divK .i64 x y K := div_pos rfl h0 h1 hy (by rw [e]; exact h)
theorem rem_isM {x y q : Int} {K : Int → Prop} (h0 : 0 ≤ x) (hy : y ≠ 0) (e : x % y = q) (h : K q) : remK x y K := rem_pos h0 hy (by rw [e]; exact h)
def pixV (c y x : Int) : Value := .agg #[.int .i64 c, .int .i64 y, .int .i64 x]
theorem split_any (w : World) (at_ high wide : Int) (h0 : 0 ≤ at_ ∧ at_ ≤ 10000) (hh : 1 ≤ high ∧ high ≤ 64) (hw : 1 ≤ wide ∧ wide ≤ 64) : Calls Tryz.prog 150 #[.int .i64 at_, .int .i64 high, .int .i64 wide] w fun e w' => e = .returned (pixV (at_ / wide / high) (at_ / wide % high) (at_ % wide)) ∧ Ext w w' := by
  obtain ⟨d1, d2, d3, d4⟩ := div_bd h0.1 (show 0 < wide by omega)
  refine calls_of tab tabOk Tryz.func150 rfl rfl rfl [] (fun _ => ⟨none, 0⟩) [.c (.int .i64 at_), .c (.int .i64 high), .c (.int .i64 wide)] [] (baseA w) 0 rfl rfl (by show 3 ≤ _; decide) (abs_base w) ?_
  (repeat' ((conv => whnf) <;> first | (show divK _ _ _ _; (first | refine div_isM (x := at_) rfl (by omega) (by omega) (by omega) ?_ | refine div_isM (x := at_ / wide) rfl (by omega) (by omega) (by omega) ?_)) | (show remK _ _ _; (first | refine rem_isM (x := at_) (by omega) (by omega) rfl ?_ | refine rem_isM (x := at_ / wide) (by omega) (by omega) rfl ?_)) | (show drawK _ 1 _ _ _ _ _ _; refine draw_tree tabOk mixed [14] _ dtIF3 (by kernel_rfl) (by kernel_rfl) (by kernel_rfl) (List.Sublist.refl _) ?_) | (show Wp _ _ _ _ _ _ _; refine Wp.go tabOk rfl ?_) | (show @cmpK _ _ _; (first | refine cmpY ?_ | refine cmpN ?_ | (refine cmp_both ?_ ?_ <;> intro _))) | (show wrapK _ _ _; refine wrapA ?_) | (show leK _ _ _; refine leA ?_) | (show roomK _ _ _; refine roomA ?_) | (show ltK _ _ _; refine ltA ?_) | (show _ ∧ _; refine ⟨?_, ?_⟩) | (show keepK _ _ _ _ _; refine keepA ?_) | refine own_keep ?_ | refine ap_old ?_))
  all_goals (conv => whnf)
  exact ends_of (fun _ _ h => h) (fun _ => rfl) rfl
def weigherV (n : NodeV) (t : IntsV) : Value := .agg #[.int .i64 n.kind, .int .i64 n.a, .int .i64 n.b, n.shape.val, .int .i64 n.lo, .int .i64 n.hi, .int .i64 n.size, n.data.val, n.bias.val, t.val]
theorem ro_ivM {a : Addr} {j : Nat} {S : Asn} {xs : List Int} {v : Int} {K : SV → Prop} (hx : ∀ R w, S.holds R w → RowsI w (some a) 1 (ints xs)) (hj : j < xs.length) (e : xs.getD j 0 = v) (h : K (.c (.int .i64 v))) : roK (a.add (j * 1)) S K := by
  subst e; exact ro_int hx hj h
set_option maxRecDepth 20000 in
set_option maxHeartbeats 4000000 in
theorem convw_any (w : World) (n : NodeV) (t : IntsV) (hs : n.shape.ok w) (hd : n.data.ok w) (ht : t.ok w) (hsl : n.shape.xs.length = 4) (htl : t.xs.length = 3) {k1 k2 k3 i1 i2 : Int} (e1 : n.shape.xs.getD 1 0 = k1) (e2 : n.shape.xs.getD 2 0 = k2) (e3 : n.shape.xs.getD 3 0 = k3) (f1 : t.xs.getD 1 0 = i1) (f2 : t.xs.getD 2 0 = i2) (b2 : (1 ≤ k2 ∧ k2 ≤ i1) ∧ i1 ≤ 64) (b3 : (1 ≤ k3 ∧ k3 ≤ i2) ∧ i2 ≤ 64)
    {o c fy fx tc ty tx : Int} (ho : 0 ≤ o ∧ o ≤ 10000) (hc : 0 ≤ c ∧ c ≤ 10000) (hfy : 0 ≤ fy ∧ fy ≤ 10000) (hfx : 0 ≤ fx ∧ fx ≤ 10000) (g1 : o / (i2 - k3 + 1) / (i1 - k2 + 1) = tc) (g2 : o / (i2 - k3 + 1) % (i1 - k2 + 1) = ty) (g3 : o % (i2 - k3 + 1) = tx) {z : Int}
    (hz : (fy - ty < 0 ∨ k2 ≤ fy - ty ∨ fx - tx < 0 ∨ k3 ≤ fx - tx) ∧ z = 0 ∨ ¬ (fy - ty < 0 ∨ k2 ≤ fy - ty ∨ fx - tx < 0 ∨ k3 ≤ fx - tx) ∧ (0 ≤ tc * k1 ∧ tc * k1 ≤ 1000000) ∧ (0 ≤ (tc * k1 + c) * k2 ∧ (tc * k1 + c) * k2 ≤ 1000000) ∧ (0 ≤ ((tc * k1 + c) * k2 + (fy - ty)) * k3 ∧ ((tc * k1 + c) * k2 + (fy - ty)) * k3 ≤ 1000000) ∧ ∃ q : Nat, ((tc * k1 + c) * k2 + (fy - ty)) * k3 + (fx - tx) = q ∧ q < n.data.xs.length ∧ n.data.xs.getD q 0 = z) :
    Calls Tryz.prog 149 #[weigherV n t, .int .i64 o, pixV c fy fx] w fun e w' => e = .returned (.int .i64 z) ∧ Ext w w' := by
  obtain ⟨sa, hsa⟩ := hs.base (by omega)
  obtain ⟨ta, hta⟩ := ht.base (by omega)
  have hsr : ∀ (R : Nat → Prop) w', (baseA w).holds R w' → RowsI w' (some sa) 1 (ints n.shape.xs) := fun R w' h => by rw [← hsa]; exact rows_base h hs.rows
  have htr : ∀ (R : Nat → Prop) w', (baseA w).holds R w' → RowsI w' (some ta) 1 (ints t.xs) := fun R w' h => by rw [← hta]; exact rows_base h ht.rows
  have hsp : ∀ (w' : World), Calls Tryz.prog 150 #[.int .i64 o, .int .i64 (i1 - k2 + 1), .int .i64 (i2 - k3 + 1)] w' fun e w2 => e = .returned (pixV tc ty tx) ∧ Ext w' w2 := fun w' => by
    have := split_any w' o (i1 - k2 + 1) (i2 - k3 + 1) ho (by omega) (by omega)
    rw [g1, g2, g3] at this; exact this
  obtain ⟨d1, d2, d3, d4⟩ := div_bd ho.1 (show 0 < i2 - k3 + 1 by omega)
  obtain ⟨d5, d6, d7, d8⟩ := div_bd d1 (show 0 < i1 - k2 + 1 by omega)
  rw [g1] at d5 d6
  rw [g2] at d7 d8
  rw [g3] at d3 d4
  rcases hz with ⟨hbad, rfl⟩ | ⟨hgood, hA, hB, hC, q, hq, hql, rfl⟩
  · refine calls_of tab tabOk Tryz.func149 rfl rfl rfl [] (fun _ => ⟨none, 0⟩) [.agg [.c (.int .i64 n.kind), .c (.int .i64 n.a), .c (.int .i64 n.b), .c n.shape.val, .c (.int .i64 n.lo), .c (.int .i64 n.hi), .c (.int .i64 n.size), .c n.data.val, .c n.bias.val, .c t.val], .c (.int .i64 o), .agg [.c (.int .i64 c), .c (.int .i64 fy), .c (.int .i64 fx)]] [] (baseA w) 0 rfl rfl (by show 3 ≤ _; decide) (abs_base w) ?_
    (repeat' ((conv => whnf) <;> first | (show idxK _ _ _ _ _; (first | refine idx_of sa 2 hsa rfl (by omega) ?_ | refine idx_of sa 3 hsa rfl (by omega) ?_ | refine idx_of sa 1 hsa rfl (by omega) ?_ | refine idx_of ta 1 hta rfl (by omega) ?_ | refine idx_of ta 2 hta rfl (by omega) ?_)) | (show roK _ _ _; (first | refine ro_ivM hsr (j := 2) (by omega) e2 ?_ | refine ro_ivM hsr (j := 3) (by omega) e3 ?_ | refine ro_ivM hsr (j := 1) (by omega) e1 ?_ | refine ro_ivM htr (j := 1) (by omega) f1 ?_ | refine ro_ivM htr (j := 2) (by omega) f2 ?_)) | (show @cmpK _ _ _; (first | refine cmp_yes (by omega) ?_ | refine cmp_no (by omega) ?_ | (refine cmp_both ?_ ?_ <;> intro _))) | (show callK _ 150 _ _ _ _ _; refine call_pure (f := 150) Tryz.call150 (pixV tc ty tx) (fun ρ w' hw => hsp w') ?_) | (show callQ _ 150 _ _ _ _ _; refine callQ_of (f := 150) Tryz.call150 (pixV tc ty tx) (fun ρ w' hw => hsp w') ?_) | (show drawK _ 2 _ _ _ _ _ _; refine draw_tree tabOk mixed [17] _ dtMI1 (by kernel_rfl) (by kernel_rfl) (by kernel_rfl) (List.Sublist.refl _) ?_) | (show drawK _ _ _ _ _ _ _ _; refine draw_quiet tabOk mixed (by kernel_rfl) ?_) | (show Wp _ _ _ _ _ _ _; refine Wp.go tabOk rfl ?_) | (show @cmpK _ _ _; (first | refine cmpY ?_ | refine cmpN ?_ | (refine cmp_both ?_ ?_ <;> intro _))) | (show wrapK _ _ _; refine wrapA ?_) | (show leK _ _ _; refine leA ?_) | (show roomK _ _ _; refine roomA ?_) | (show ltK _ _ _; refine ltA ?_) | (show _ ∧ _; refine ⟨?_, ?_⟩) | (show keepK _ _ _ _ _; refine keepA ?_) | refine own_keep ?_ | refine ap_old ?_))
    all_goals (conv => whnf)
    all_goals first | (exfalso; omega) | exact ends_of (fun _ _ h => h) (fun _ => rfl) rfl
  · obtain ⟨da, hda⟩ := hd.base (by omega)
    have hdr : ∀ (R : Nat → Prop) w', (baseA w).holds R w' → RowsI w' (some da) 1 (ints n.data.xs) := fun R w' h => by rw [← hda]; exact rows_base h hd.rows
    refine calls_of tab tabOk Tryz.func149 rfl rfl rfl [] (fun _ => ⟨none, 0⟩) [.agg [.c (.int .i64 n.kind), .c (.int .i64 n.a), .c (.int .i64 n.b), .c n.shape.val, .c (.int .i64 n.lo), .c (.int .i64 n.hi), .c (.int .i64 n.size), .c n.data.val, .c n.bias.val, .c t.val], .c (.int .i64 o), .agg [.c (.int .i64 c), .c (.int .i64 fy), .c (.int .i64 fx)]] [] (baseA w) 0 rfl rfl (by show 3 ≤ _; decide) (abs_base w) ?_
    (repeat' ((conv => whnf) <;> first | (show idxK _ _ _ _ _; (first | refine idx_of sa 2 hsa rfl (by omega) ?_ | refine idx_of sa 3 hsa rfl (by omega) ?_ | refine idx_of sa 1 hsa rfl (by omega) ?_ | refine idx_of ta 1 hta rfl (by omega) ?_ | refine idx_of ta 2 hta rfl (by omega) ?_ | refine idx_of da q hda hq hql ?_)) | (show roK _ _ _; (first | refine ro_ivM hsr (j := 2) (by omega) e2 ?_ | refine ro_ivM hsr (j := 3) (by omega) e3 ?_ | refine ro_ivM hsr (j := 1) (by omega) e1 ?_ | refine ro_ivM htr (j := 1) (by omega) f1 ?_ | refine ro_ivM htr (j := 2) (by omega) f2 ?_ | refine ro_int hdr (j := q) hql ?_)) | (show callK _ 150 _ _ _ _ _; refine call_pure (f := 150) Tryz.call150 (pixV tc ty tx) (fun ρ w' hw => hsp w') ?_) | (show callQ _ 150 _ _ _ _ _; refine callQ_of (f := 150) Tryz.call150 (pixV tc ty tx) (fun ρ w' hw => hsp w') ?_) | (show drawK _ 2 _ _ _ _ _ _; refine draw_tree tabOk mixed [17] _ dtMI1 (by kernel_rfl) (by kernel_rfl) (by kernel_rfl) (List.Sublist.refl _) ?_) | (show drawK _ _ _ _ _ _ _ _; refine draw_quiet tabOk mixed (by kernel_rfl) ?_) | (show Wp _ _ _ _ _ _ _; refine Wp.go tabOk rfl ?_) | (show @cmpK _ _ _; (first | refine cmpY ?_ | refine cmpN ?_ | (refine cmp_both ?_ ?_ <;> intro _))) | (show wrapK _ _ _; refine wrapA ?_) | (show leK _ _ _; refine leA ?_) | (show roomK _ _ _; refine roomA ?_) | (show ltK _ _ _; refine ltA ?_) | (show _ ∧ _; refine ⟨?_, ?_⟩) | (show keepK _ _ _ _ _; refine keepA ?_) | refine own_keep ?_ | refine ap_old ?_))
    all_goals (conv => whnf)
    all_goals exact ends_of (fun _ _ h => h) (fun _ => rfl) rfl
end Go.Proofs.YtgndjjdeopfdkaaGreat

/- MJ -/
namespace Go.Proofs.YtgndjjdeopfdkaaGreat
open Go.SX Go.RowKit
structure LConv (n : NodeV) (t : List Int) (cnt : Nat) (k0 k1 k2 k3 i1 i2 : Int) : Prop where
  kind : n.kind = 4
  s4 : n.shape.xs.length = 4
  t3 : t.length = 3
  e0 : n.shape.xs.getD 0 0 = k0
  e1 : n.shape.xs.getD 1 0 = k1
  e2 : n.shape.xs.getD 2 0 = k2
  e3 : n.shape.xs.getD 3 0 = k3
  f0 : t.getD 0 0 = k1
  f1 : t.getD 1 0 = i1
  f2 : t.getD 2 0 = i2
  b0 : 1 ≤ k0 ∧ k0 ≤ 64
  b1 : 1 ≤ k1 ∧ k1 ≤ 64
  b2 : 1 ≤ k2 ∧ k2 ≤ i1
  b3 : 1 ≤ k3 ∧ k3 ≤ i2
  bi1 : i1 ≤ 64
  bi2 : i2 ≤ 64
  data : (n.data.xs.length : Int) = k0 * k1 * k2 * k3
  bias : (n.bias.xs.length : Int) = k0
  cnt : (cnt : Int) = k0 * (i1 - k2 + 1) * (i2 - k3 + 1)
  size : entries t = k1 * i1 * i2
structure LPool (n : NodeV) (t : List Int) (cnt : Nat) (i0 i1 i2 : Int) : Prop where
  kind : n.kind = 5
  t3 : t.length = 3
  f0 : t.getD 0 0 = i0
  f1 : t.getD 1 0 = i1
  f2 : t.getD 2 0 = i2
  b0 : 1 ≤ i0 ∧ i0 ≤ 64
  z : 1 ≤ n.size
  z1 : n.size ≤ i1
  z2 : n.size ≤ i2
  b1 : i1 ≤ 64
  b2 : i2 ≤ 64
  m1 : i1 % n.size = 0
  m2 : i2 % n.size = 0
  cnt : (cnt : Int) = i0 * (i1 / n.size) * (i2 / n.size)
  size : entries t = i0 * i1 * i2
theorem lin_cases {n : NodeV} {sh : List (List Int)} {s t : List Int} {cnt : Nat} (h : PlaceIn n sh s t cnt) (hl : isLin n) :
    (n.kind = 3 ∧ ∃ size : Nat, entries t = size ∧ n.data.xs.length = cnt * size ∧ n.bias.xs.length = cnt) ∨ (∃ k0 k1 k2 k3 i1 i2, LConv n t cnt k0 k1 k2 k3 i1 i2) ∨ ∃ i0 i1 i2, LPool n t cnt i0 i1 i2 := by
  have hsh := h.node.shape
  have hfo := formed_of h.node.form
  have h4 := form4 h.node.form
  have heb := (entries_bd t).2
  have hc := h.cnt
  have hfew := h.few
  have hgs := h.pos
  obtain ⟨ht, hg⟩ := h.first hl
  obtain ⟨size, hsz⟩ : ∃ size : Nat, entries t = size := ⟨(entries t).toNat, by omega⟩
  rcases hl with hk | hk | hk
  · refine .inl ⟨hk, size, hsz, ?_⟩
    unfold shapeO at hsh
    rw [if_neg (by omega), if_pos hk, ht] at hsh
    by_cases hdl : (n.data.xs.length : Int) = n.bias.xs.length * entries t
    · rw [if_pos hdl, Option.some.injEq] at hsh
      obtain ⟨b1, b2⟩ := hfo.bias hk
      have he1 : entries [(n.bias.xs.length : Int)] = n.bias.xs.length := by
        unfold entries
        rw [if_neg (by simp)]
        simp only [entLoop]
        rw [if_neg (by omega)]
        omega
      rw [← hsh, he1] at hc
      have hbl : n.bias.xs.length = cnt := by omega
      have hdl' : n.data.xs.length = n.bias.xs.length * size := by
        rw [hsz, ← Int.natCast_mul] at hdl
        exact Int.ofNat.inj hdl
      rw [hbl] at hdl'
      exact ⟨hdl', hbl⟩
    · rw [if_neg hdl] at hsh; cases hsh
  · obtain ⟨g1, g2⟩ := h4 hk
    have hker := hfo.kern hk
    obtain ⟨hl4, hdim⟩ := kernel_dims hker
    have hsx := list4 hl4
    have hC := conv_in h hk
    unfold shapeO at hsh
    rw [if_neg (by omega), if_neg (by omega), if_pos hk, ht] at hsh
    have dm : ∀ k, k < 4 → 1 ≤ n.shape.xs.getD k 0 ∧ n.shape.xs.getD k 0 ≤ 64 := fun k hk => hdim _ (getD_mem (by omega))
    have dm0 := dm 0 (by decide)
    have dm1 := dm 1 (by decide)
    rw [hsx] at g1 hker
    have hke := kernel4I hker
    rw [hke] at g1
    by_cases hbad : t.length ≠ 3 ∨ t.getD 0 0 ≠ n.shape.xs.getD 1 0 ∨ t.getD 1 0 < n.shape.xs.getD 2 0 ∨ t.getD 2 0 < n.shape.xs.getD 3 0
    · rw [if_pos hbad] at hsh; cases hsh
    rw [if_neg hbad] at hsh
    have hl3 : t.length = 3 := by omega
    have htx := len3 hl3
    have h0 : t.getD 0 0 = n.shape.xs.getD 1 0 := by omega
    have tdm := (entries_dims hg).2.2
    have td1 := tdm _ (getD_mem (xs := t) (k := 1) (by omega))
    have td2 := tdm _ (getD_mem (xs := t) (k := 2) (by omega))
    have hE : entries t = n.shape.xs.getD 1 0 * t.getD 1 0 * t.getD 2 0 := by
      have := entries3_valI (by rw [← htx]; exact hg)
      rw [← htx, h0] at this
      exact this
    by_cases hpos : 0 < entries [n.shape.xs.getD 0 0, t.getD 1 0 - n.shape.xs.getD 2 0 + 1, t.getD 2 0 - n.shape.xs.getD 3 0 + 1]
    · rw [if_pos hpos, Option.some.injEq] at hsh
      have hcv := entries3_valI hpos
      rw [hsh, hc] at hcv
      exact .inr (.inl ⟨_, _, _, _, _, _, ⟨hk, hl4, hl3, rfl, rfl, rfl, rfl, h0, rfl, rfl, dm0, dm1, hC.k2, hC.k3, td1.2, td2.2, g1, g2, hcv, hE⟩⟩)
    · rw [if_neg hpos] at hsh; cases hsh
  · have hP := pool_in h hk
    unfold shapeO at hsh
    rw [if_neg (by omega), if_neg (by omega), if_neg (by omega), if_pos hk, ht] at hsh
    by_cases hbad : t.length ≠ 3 ∨ t.getD 1 0 % n.size ≠ 0 ∨ t.getD 2 0 % n.size ≠ 0
    · rw [if_pos hbad] at hsh; cases hsh
    rw [if_neg hbad, Option.some.injEq] at hsh
    have hl3 : t.length = 3 := by omega
    have htx := len3 hl3
    have tdm := (entries_dims hg).2.2
    have td0 := tdm _ (getD_mem (xs := t) (k := 0) (by omega))
    have td1 := tdm _ (getD_mem (xs := t) (k := 1) (by omega))
    have td2 := tdm _ (getD_mem (xs := t) (k := 2) (by omega))
    have hpos : 0 < entries [t.getD 0 0, t.getD 1 0 / n.size, t.getD 2 0 / n.size] := by
      have := shape_good hfo hgs h.node.shape rfl
      rw [hsh]; exact this
    have hcv := entries3_valI hpos
    rw [hsh, hc] at hcv
    have hE : entries t = t.getD 0 0 * t.getD 1 0 * t.getD 2 0 := by
      have := entries3_valI (by rw [← htx]; exact hg)
      rw [← htx] at this
      exact this
    exact .inr (.inr ⟨_, _, _, ⟨hk, hl3, rfl, rfl, rfl, td0, hP.z, hP.z1, hP.z2, td1.2, td2.2, hP.m1, hP.m2, hcv, hE⟩⟩)
def wgt9 (o i : Int) : Int := if o = i then 1 else 0
set_option maxRecDepth 20000 in
set_option maxHeartbeats 4000000 in
theorem weight9_any (w : World) (n : NodeV) (t : IntsV) (hk : n.kind = 9) (o i : Int) : Calls Tryz.prog 124 #[weigherV n t, .int .i64 o, .int .i64 i] w fun e w' => e = .returned (.int .i64 (wgt9 o i)) ∧ Ext w w' := by
  by_cases h : o = i
  · refine calls_of tab tabOk Tryz.func124 rfl rfl rfl [] (fun _ => ⟨none, 0⟩) [.agg [.c (.int .i64 n.kind), .c (.int .i64 n.a), .c (.int .i64 n.b), .c n.shape.val, .c (.int .i64 n.lo), .c (.int .i64 n.hi), .c (.int .i64 n.size), .c n.data.val, .c n.bias.val, .c t.val], .c (.int .i64 o), .c (.int .i64 i)] [] (baseA w) 0 rfl rfl (by show 3 ≤ _; decide) (abs_base w) ?_
    (repeat' ((conv => whnf) <;> first | (show drawK _ _ _ _ _ _ _ _; refine draw_quiet tabOk mixed (by kernel_rfl) ?_) | (show Wp _ _ _ _ _ _ _; refine Wp.go tabOk rfl ?_) | (show @cmpK _ _ _; (first | refine cmpY ?_ | refine cmpN ?_ | (refine cmp_both ?_ ?_ <;> intro _))) | (show wrapK _ _ _; refine wrapA ?_) | (show leK _ _ _; refine leA ?_) | (show roomK _ _ _; refine roomA ?_) | (show ltK _ _ _; refine ltA ?_) | (show _ ∧ _; refine ⟨?_, ?_⟩) | (show keepK _ _ _ _ _; refine keepA ?_) | refine own_keep ?_ | refine ap_old ?_))
    all_goals (conv => whnf)
    all_goals exact ends_of (fun _ _ h => h) (fun _ => by rw [wgt9, if_pos h]; rfl) rfl
  · refine calls_of tab tabOk Tryz.func124 rfl rfl rfl [] (fun _ => ⟨none, 0⟩) [.agg [.c (.int .i64 n.kind), .c (.int .i64 n.a), .c (.int .i64 n.b), .c n.shape.val, .c (.int .i64 n.lo), .c (.int .i64 n.hi), .c (.int .i64 n.size), .c n.data.val, .c n.bias.val, .c t.val], .c (.int .i64 o), .c (.int .i64 i)] [] (baseA w) 0 rfl rfl (by show 3 ≤ _; decide) (abs_base w) ?_
    (repeat' ((conv => whnf) <;> first | (show drawK _ _ _ _ _ _ _ _; refine draw_quiet tabOk mixed (by kernel_rfl) ?_) | (show Wp _ _ _ _ _ _ _; refine Wp.go tabOk rfl ?_) | (show @cmpK _ _ _; (first | refine cmpY ?_ | refine cmpN ?_ | (refine cmp_both ?_ ?_ <;> intro _))) | (show wrapK _ _ _; refine wrapA ?_) | (show leK _ _ _; refine leA ?_) | (show roomK _ _ _; refine roomA ?_) | (show ltK _ _ _; refine ltA ?_) | (show _ ∧ _; refine ⟨?_, ?_⟩) | (show keepK _ _ _ _ _; refine keepA ?_) | refine own_keep ?_ | refine ap_old ?_))
    all_goals (conv => whnf)
    all_goals exact ends_of (fun _ _ h => h) (fun _ => by rw [wgt9, if_neg h]; rfl) rfl
set_option maxRecDepth 20000 in
set_option maxHeartbeats 4000000 in
theorem weight3_any (w : World) (n : NodeV) (t : IntsV) (hd : n.data.ok w) (hk : n.kind = 3) (size cnt : Nat) (hsz : entries t.xs = size) (hdl : n.data.xs.length = cnt * size) (hbl : n.bias.xs.length = cnt) (hc64 : cnt ≤ 64) (hs64 : size ≤ 64) (o i : Nat) (ho : o < cnt) (hi : i < size) : Calls Tryz.prog 124 #[weigherV n t, .int .i64 o, .int .i64 i] w fun e w' => e = .returned (.int .i64 (wgtI n t.xs o i)) ∧ Ext w w' := by
  have hq : o * size + i < cnt * size := by
    have : (o + 1) * size ≤ cnt * size := Nat.mul_le_mul_right _ ho
    rw [Nat.succ_mul] at this; omega
  have hos : o * size ≤ 64 * 64 := Nat.mul_le_mul (by omega) hs64
  have hcs : cnt * size ≤ 64 * 64 := Nat.mul_le_mul hc64 hs64
  have hdiv : ((n.data.xs.length : Nat) : Int) / ((n.bias.xs.length : Nat) : Int) = (size : Int) := by
    rw [hdl, hbl, ← Int.natCast_ediv, Nat.mul_div_cancel_left _ (by omega)]
  have hW : wgtI n t.xs o i = n.data.xs.getD (o * size + i) 0 := by
    rw [wgtI, if_pos hk, hsz, show (o : Int) * (size : Int) + (i : Int) = ((o * size + i : Nat) : Int) by simp, Int.toNat_natCast]
  rw [hW]
  obtain ⟨da, hda⟩ := hd.base (by omega)
  have hdr : ∀ (R : Nat → Prop) w', (baseA w).holds R w' → RowsI w' (some da) 1 (ints n.data.xs) := fun R w' h => by rw [← hda]; exact rows_base h hd.rows
  refine calls_of tab tabOk Tryz.func124 rfl rfl rfl [] (fun _ => ⟨none, 0⟩) [.agg [.c (.int .i64 n.kind), .c (.int .i64 n.a), .c (.int .i64 n.b), .c n.shape.val, .c (.int .i64 n.lo), .c (.int .i64 n.hi), .c (.int .i64 n.size), .c n.data.val, .c n.bias.val, .c t.val], .c (.int .i64 o), .c (.int .i64 i)] [] (baseA w) 0 rfl rfl (by show 3 ≤ _; decide) (abs_base w) ?_
  (repeat' ((conv => whnf) <;> first | (show divK _ _ _ _; refine div_isM hdiv (by omega) (by omega) (by omega) ?_) | (show wrapK _ _ _; (first | refine wrap_isI ((o * size : Nat) : Int) (Int.natCast_mul _ _).symm (by omega) (by omega) ?_ | refine wrap_i64 (by omega) (by omega) ?_)) | (show idxK _ _ _ _ _; refine idx_of da (o * size + i) hda (by omega) (by omega) ?_) | (show roK _ _ _; refine ro_int hdr (j := o * size + i) (by omega) ?_) | (show drawK _ _ _ _ _ _ _ _; refine draw_quiet tabOk mixed (by kernel_rfl) ?_) | (show Wp _ _ _ _ _ _ _; refine Wp.go tabOk rfl ?_) | (show @cmpK _ _ _; (first | refine cmpY ?_ | refine cmpN ?_ | (refine cmp_both ?_ ?_ <;> intro _))) | (show wrapK _ _ _; refine wrapA ?_) | (show leK _ _ _; refine leA ?_) | (show roomK _ _ _; refine roomA ?_) | (show ltK _ _ _; refine ltA ?_) | (show _ ∧ _; refine ⟨?_, ?_⟩) | (show keepK _ _ _ _ _; refine keepA ?_) | refine own_keep ?_ | refine ap_old ?_))
  all_goals (conv => whnf)
  all_goals exact ends_of (fun _ _ h => h) (fun _ => rfl) rfl
end Go.Proofs.YtgndjjdeopfdkaaGreat

/- MK -/
namespace Go.Proofs.YtgndjjdeopfdkaaGreat
abbrev dtMK0 : Go.SX.DT := (.take 0 (.take 1 (.take 2 (.take 3 (.take 4 (.take 5 (.take 6 (.take 7 (.take 8 (.take 9 (.take 10 (.take 11 (.take 12 (.take 13 (.take 14 (.take 15 (.take 16 (.take 18 (.take 19 (.take 20 (.take 21 (.take 22 (.take 23 (.take 24 (.take 25 (.take 26 (.alt 17 (.alt 27 (.alt 28 (.one 29 (.one 30 (.one 31 (.done)))) (.one 29 (.one 28 (.one 30 (.one 31 (.done)))))) (.alt 28 (.alt 27 (.one 29 (.one 30 (.one 31 (.done)))) (.one 29 (.one 27 (.one 30 (.one 31 (.done)))))) (.one 29 (.alt 27 (.one 28 (.one 30 (.one 31 (.done)))) (.one 28 (.one 27 (.one 30 (.one 31 (.done))))))))) (.alt 28 (.alt 17 (.alt 27 (.one 29 (.one 30 (.one 31 (.done)))) (.one 29 (.one 27 (.one 30 (.one 31 (.done)))))) (.one 29 (.one 17 (.one 27 (.one 30 (.one 31 (.done))))))) (.one 29 (.alt 17 (.alt 27 (.one 28 (.one 30 (.one 31 (.done)))) (.one 28 (.one 27 (.one 30 (.one 31 (.done)))))) (.one 28 (.one 17 (.one 27 (.one 30 (.one 31 (.done))))))))))))))))))))))))))))))))))))
open Go.SX Go.RowKit
theorem convw_z {n : NodeV} {t : IntsV} {cnt : Nat} {k0 k1 k2 k3 i1 i2 : Int} (h : LConv n t.xs cnt k0 k1 k2 k3 i1 i2) (hfew : n.data.xs.length ≤ 1000000) {o i : Int} (ho : 0 ≤ o ∧ o < cnt) (hi : 0 ≤ i ∧ i < entries t.xs) {c fy fx tc ty tx : Int}
    (hc : i / i2 / i1 = c) (hfy : i / i2 % i1 = fy) (hfx : i % i2 = fx) (htc : o / (i2 - k3 + 1) / (i1 - k2 + 1) = tc) (hty : o / (i2 - k3 + 1) % (i1 - k2 + 1) = ty) (htx : o % (i2 - k3 + 1) = tx) :
    (fy - ty < 0 ∨ k2 ≤ fy - ty ∨ fx - tx < 0 ∨ k3 ≤ fx - tx) ∧ wgtI n t.xs o i = 0 ∨ ¬ (fy - ty < 0 ∨ k2 ≤ fy - ty ∨ fx - tx < 0 ∨ k3 ≤ fx - tx) ∧ (0 ≤ tc * k1 ∧ tc * k1 ≤ 1000000) ∧ (0 ≤ (tc * k1 + c) * k2 ∧ (tc * k1 + c) * k2 ≤ 1000000) ∧ (0 ≤ ((tc * k1 + c) * k2 + (fy - ty)) * k3 ∧ ((tc * k1 + c) * k2 + (fy - ty)) * k3 ≤ 1000000) ∧ ∃ q : Nat, ((tc * k1 + c) * k2 + (fy - ty)) * k3 + (fx - tx) = q ∧ q < n.data.xs.length ∧ n.data.xs.getD q 0 = wgtI n t.xs o i := by
  obtain ⟨hk, s4, t3, e0, e1, e2, e3, f0, f1, f2, b0, b1, b2, b3, bi1, bi2, hd, hb, hcnt, hsz⟩ := h
  have hw : wgtI n t.xs o i = if fy - ty < 0 ∨ k2 ≤ fy - ty ∨ fx - tx < 0 ∨ k3 ≤ fx - tx then 0 else n.data.xs.getD (((tc * k1 + c) * k2 + (fy - ty)) * k3 + (fx - tx)).toNat 0 := by
    unfold wgtI
    rw [if_neg (by omega), if_pos hk, e1, e2, e3, f1, f2, hc, hfy, hfx, htc, hty, htx]
  rw [hw]
  by_cases hbad : fy - ty < 0 ∨ k2 ≤ fy - ty ∨ fx - tx < 0 ∨ k3 ≤ fx - tx
  · exact .inl ⟨hbad, if_pos hbad⟩
  · refine .inr ⟨hbad, ?_⟩
    rw [if_neg hbad]
    obtain ⟨_, ox, oy, oc⟩ := pos_split (i := o) (I1 := i1 - k2 + 1) (I2 := i2 - k3 + 1) ho.1 (by omega) (by omega)
    obtain ⟨_, ix, iy, ic⟩ := pos_split (i := i) (I1 := i1) (I2 := i2) hi.1 (by omega) (by omega)
    rw [htc] at oc
    rw [hc] at ic
    have htk : tc < k0 := by
      rw [← htc]
      refine div_lt_of (by omega) (div_lt_of (by omega) ?_)
      rw [← hcnt]; exact ho.2
    have hck : c < k1 := by
      rw [← hc]
      refine div_lt_of (by omega) (div_lt_of (by omega) ?_)
      rw [← hsz]; exact hi.2
    have L1 := lin_lt (o := tc) (k1 := k1) (c := c) (k0 := k0) ⟨oc, htk⟩ ⟨ic, hck⟩
    have p1 : 0 ≤ tc * k1 := Int.mul_nonneg oc (by omega)
    have L2 := lin_lt (o := tc * k1 + c) (k1 := k2) (c := fy - ty) (k0 := k0 * k1) ⟨by omega, L1⟩ ⟨by omega, by omega⟩
    have p2 : 0 ≤ (tc * k1 + c) * k2 := Int.mul_nonneg (by omega) (by omega)
    have L3 := lin_lt (o := (tc * k1 + c) * k2 + (fy - ty)) (k1 := k3) (c := fx - tx) (k0 := k0 * k1 * k2) ⟨by omega, L2⟩ ⟨by omega, by omega⟩
    have p3 : 0 ≤ ((tc * k1 + c) * k2 + (fy - ty)) * k3 := Int.mul_nonneg (by omega) (by omega)
    have u1 : tc * k1 ≤ (tc * k1 + c) * k2 := by
      have := Int.mul_le_mul_of_nonneg_left (show 1 ≤ k2 by omega) (show 0 ≤ tc * k1 + c by omega)
      rw [Int.mul_one] at this; omega
    have u2 : (tc * k1 + c) * k2 ≤ ((tc * k1 + c) * k2 + (fy - ty)) * k3 := by
      have := Int.mul_le_mul_of_nonneg_left (show 1 ≤ k3 by omega) (show 0 ≤ (tc * k1 + c) * k2 + (fy - ty) by omega)
      rw [Int.mul_one] at this; omega
    rw [← hd] at L3
    obtain ⟨q, hq⟩ := Int.eq_ofNat_of_zero_le (show 0 ≤ ((tc * k1 + c) * k2 + (fy - ty)) * k3 + (fx - tx) by omega)
    exact ⟨⟨p1, by omega⟩, ⟨p2, by omega⟩, ⟨p3, by omega⟩, q, hq, by omega, by rw [hq]; rfl⟩
set_option maxRecDepth 20000 in
set_option maxHeartbeats 4000000 in
theorem weight4_any (w : World) (n : NodeV) (t : IntsV) (hno : n.ok w) (ht : t.ok w) (cnt : Nat) (hc64 : cnt ≤ 64) {k0 k1 k2 k3 i1 i2 : Int} (h : LConv n t.xs cnt k0 k1 k2 k3 i1 i2) (o i : Nat) (ho : o < cnt) (hi : (i : Int) < entries t.xs) : Calls Tryz.prog 124 #[weigherV n t, .int .i64 o, .int .i64 i] w fun e w' => e = .returned (.int .i64 (wgtI n t.xs o i)) ∧ Ext w w' := by
  have hes := (entries_bd t.xs).2
  obtain ⟨ta, hta⟩ := ht.base (by have := h.t3; omega)
  have ht3 := h.t3
  have htr : ∀ (R : Nat → Prop) w', (baseA w).holds R w' → RowsI w' (some ta) 1 (ints t.xs) := fun R w' h => by rw [← hta]; exact rows_base h ht.rows
  have hk := h.kind
  have g1 := h.b2
  have g2 := h.b3
  have g3 := h.bi1
  have g4 := h.bi2
  obtain ⟨_, ix, iy, ic⟩ := pos_split (i := (i : Int)) (I1 := i1) (I2 := i2) (by omega) (by omega) (by omega)
  have d1 := Int.ediv_le_self (a := (i : Int)) i2 (by omega)
  have d2 := Int.ediv_le_self (a := (i : Int) / i2) i1 (Int.ediv_nonneg (by omega) (by omega))
  have hsp : ∀ (w' : World), Calls Tryz.prog 150 #[.int .i64 i, .int .i64 i1, .int .i64 i2] w' fun e w2 => e = .returned (pixV ((i : Int) / i2 / i1) ((i : Int) / i2 % i1) ((i : Int) % i2)) ∧ Ext w' w2 := fun w' => split_any w' i i1 i2 (by omega) (by omega) (by omega)
  have hcv : ∀ (w' : World), n.ok w' → t.ok w' → Calls Tryz.prog 149 #[weigherV n t, .int .i64 o, pixV ((i : Int) / i2 / i1) ((i : Int) / i2 % i1) ((i : Int) % i2)] w' fun e w2 => e = .returned (.int .i64 (wgtI n t.xs o i)) ∧ Ext w' w2 := fun w' hn' ht' =>
    convw_any w' n t hn'.shape hn'.data ht' h.s4 h.t3 h.e1 h.e2 h.e3 h.f1 h.f2 ⟨g1, g3⟩ ⟨g2, g4⟩ (by omega) (by omega) (by omega) (by omega) rfl rfl rfl (convw_z h hno.data.few (by omega) (by omega) rfl rfl rfl rfl rfl rfl)
  refine calls_of tab tabOk Tryz.func124 rfl rfl rfl [] (fun _ => ⟨none, 0⟩) [.agg [.c (.int .i64 n.kind), .c (.int .i64 n.a), .c (.int .i64 n.b), .c n.shape.val, .c (.int .i64 n.lo), .c (.int .i64 n.hi), .c (.int .i64 n.size), .c n.data.val, .c n.bias.val, .c t.val], .c (.int .i64 o), .c (.int .i64 i)] [] (baseA w) 0 rfl rfl (by show 3 ≤ _; decide) (abs_base w) ?_
  (repeat' ((conv => whnf) <;> first | (show idxK _ _ _ _ _; (first | refine idx_of ta 1 hta rfl (by omega) ?_ | refine idx_of ta 2 hta rfl (by omega) ?_)) | (show roK _ _ _; (first | refine ro_ivM htr (j := 1) (by omega) h.f1 ?_ | refine ro_ivM htr (j := 2) (by omega) h.f2 ?_)) | (show callQ _ 150 _ _ _ _ _; refine callQ_of (f := 150) Tryz.call150 (pixV ((i : Int) / i2 / i1) ((i : Int) / i2 % i1) ((i : Int) % i2)) (fun ρ w' hw => hsp w') ?_) | (show callQ _ 149 _ _ _ _ _; refine callQ_of (f := 149) Tryz.call149 (.int .i64 (wgtI n t.xs o i)) (fun ρ w' hw => hcv w' (holds_of_abs hw fun R h => hno.later h) (holds_of_abs hw fun R h => ht.later h)) ?_) | (show callK _ 150 _ _ _ _ _; refine call_pure (f := 150) Tryz.call150 (pixV ((i : Int) / i2 / i1) ((i : Int) / i2 % i1) ((i : Int) % i2)) (fun ρ w' hw => hsp w') ?_) | (show callK _ 149 _ _ _ _ _; refine call_pure (f := 149) Tryz.call149 (.int .i64 (wgtI n t.xs o i)) (fun ρ w' hw => hcv w' (holds_of_abs hw fun R h => hno.later h) (holds_of_abs hw fun R h => ht.later h)) ?_) | (show drawK _ _ _ _ _ _ _ _; refine draw_quiet tabOk mixed (by kernel_rfl) ?_) | (show Wp _ _ _ _ _ _ _; refine Wp.go tabOk rfl ?_) | (show @cmpK _ _ _; (first | refine cmpY ?_ | refine cmpN ?_ | (refine cmp_both ?_ ?_ <;> intro _))) | (show wrapK _ _ _; refine wrapA ?_) | (show leK _ _ _; refine leA ?_) | (show roomK _ _ _; refine roomA ?_) | (show ltK _ _ _; refine ltA ?_) | (show _ ∧ _; refine ⟨?_, ?_⟩) | (show keepK _ _ _ _ _; refine keepA ?_) | refine own_keep ?_ | refine ap_old ?_))
  all_goals (conv => whnf)
  all_goals exact ends_of (fun _ _ h => h) (fun _ => rfl) rfl
set_option maxRecDepth 20000 in
set_option maxHeartbeats 8000000 in
theorem weight5_any (w : World) (n : NodeV) (t : IntsV) (ht : t.ok w) (cnt : Nat) (hc64 : cnt ≤ 64) {i0 i1 i2 : Int} (h : LPool n t.xs cnt i0 i1 i2) (o i : Nat) (ho : o < cnt) (hi : (i : Int) < entries t.xs) : Calls Tryz.prog 124 #[weigherV n t, .int .i64 o, .int .i64 i] w fun e w' => e = .returned (.int .i64 (wgtI n t.xs o i)) ∧ Ext w w' := by
  have hes := (entries_bd t.xs).2
  obtain ⟨hk, ht3, f0, f1, f2, b0, hz, z1, z2, b1, b2, m1, m2, hcnt, hsz⟩ := h
  obtain ⟨ta, hta⟩ := ht.base (by omega)
  have htr : ∀ (R : Nat → Prop) w', (baseA w).holds R w' → RowsI w' (some ta) 1 (ints t.xs) := fun R w' h => by rw [← hta]; exact rows_base h ht.rows
  have hH := div_pos1 (x := i1) (y := n.size) hz z1
  have hW := div_pos1 (x := i2) (y := n.size) hz z2
  have hH2 := Int.ediv_le_self (a := i1) n.size (by omega)
  have hW2 := Int.ediv_le_self (a := i2) n.size (by omega)
  obtain ⟨_, ix, iy, ic⟩ := pos_split (i := (i : Int)) (I1 := i1) (I2 := i2) (by omega) (by omega) (by omega)
  have d1 := Int.ediv_le_self (a := (i : Int)) i2 (by omega)
  have d2 := Int.ediv_le_self (a := (i : Int) / i2) i1 (Int.ediv_nonneg (by omega) (by omega))
  have hw : wgtI n t.xs o i = if (i : Int) / i2 / i1 ≠ (o : Int) / (i2 / n.size) / (i1 / n.size) ∨ (i : Int) / i2 % i1 / n.size ≠ (o : Int) / (i2 / n.size) % (i1 / n.size) ∨ (i : Int) % i2 / n.size ≠ (o : Int) % (i2 / n.size) then 0 else 1 := by
    unfold wgtI
    rw [if_neg (by omega), if_neg (by omega), f1, f2]
  rw [hw]
  have hsp : ∀ (w' : World), Calls Tryz.prog 150 #[.int .i64 i, .int .i64 i1, .int .i64 i2] w' fun e w2 => e = .returned (pixV ((i : Int) / i2 / i1) ((i : Int) / i2 % i1) ((i : Int) % i2)) ∧ Ext w' w2 := fun w' => split_any w' i i1 i2 (by omega) (by omega) (by omega)
  have hsp2 : ∀ (w' : World), Calls Tryz.prog 150 #[.int .i64 o, .int .i64 (i1 / n.size), .int .i64 (i2 / n.size)] w' fun e w2 => e = .returned (pixV ((o : Int) / (i2 / n.size) / (i1 / n.size)) ((o : Int) / (i2 / n.size) % (i1 / n.size)) ((o : Int) % (i2 / n.size))) ∧ Ext w' w2 := fun w' => split_any w' o (i1 / n.size) (i2 / n.size) (by omega) (by omega) (by omega)
  obtain ⟨H, hHd⟩ : ∃ H, i1 / n.size = H := ⟨_, rfl⟩
  obtain ⟨W, hWd⟩ : ∃ W, i2 / n.size = W := ⟨_, rfl⟩
  rw [hHd, hWd] at hsp2 ⊢
  obtain ⟨c, hc⟩ : ∃ c, (i : Int) / i2 / i1 = c := ⟨_, rfl⟩
  obtain ⟨fy, hfy⟩ : ∃ c, (i : Int) / i2 % i1 = c := ⟨_, rfl⟩
  obtain ⟨fx, hfx⟩ : ∃ c, (i : Int) % i2 = c := ⟨_, rfl⟩
  obtain ⟨tc, htc⟩ : ∃ c, (o : Int) / W / H = c := ⟨_, rfl⟩
  obtain ⟨ty, hty⟩ : ∃ c, (o : Int) / W % H = c := ⟨_, rfl⟩
  obtain ⟨tx, htx⟩ : ∃ c, (o : Int) % W = c := ⟨_, rfl⟩
  rw [hc, hfy, hfx] at hsp ⊢
  rw [htc, hty, htx] at hsp2 ⊢
  rw [hfy] at iy
  rw [hfx] at ix
  rw [hc] at ic d2
  refine calls_of tab tabOk Tryz.func124 rfl rfl rfl [] (fun _ => ⟨none, 0⟩) [.agg [.c (.int .i64 n.kind), .c (.int .i64 n.a), .c (.int .i64 n.b), .c n.shape.val, .c (.int .i64 n.lo), .c (.int .i64 n.hi), .c (.int .i64 n.size), .c n.data.val, .c n.bias.val, .c t.val], .c (.int .i64 o), .c (.int .i64 i)] [] (baseA w) 0 rfl rfl (by show 3 ≤ _; decide) (abs_base w) ?_
  (repeat' ((conv => whnf) <;> first | (show drawK _ 7 _ _ _ _ _ _; refine draw_tree tabOk mixed [] _ dtMK0 (by kernel_rfl) (by kernel_rfl) (by kernel_rfl) (List.Sublist.refl _) ?_) | (show idxK _ _ _ _ _; (first | refine idx_of ta 1 hta rfl (by omega) ?_ | refine idx_of ta 2 hta rfl (by omega) ?_)) | (show roK _ _ _; (first | refine ro_ivM htr (j := 1) (by omega) f1 ?_ | refine ro_ivM htr (j := 2) (by omega) f2 ?_)) | (show divK _ _ _ _; (first | refine div_isM hHd (by omega) (by omega) (by omega) ?_ | refine div_isM hWd (by omega) (by omega) (by omega) ?_ | refine div_isM (x := fy) rfl (by omega) (by omega) (by omega) ?_ | refine div_isM (x := fx) rfl (by omega) (by omega) (by omega) ?_)) | (show callK _ 150 [.c (.int .i64 i), .c (.int .i64 i1), .c (.int .i64 i2)] _ _ _ _; refine call_pure (f := 150) Tryz.call150 (pixV c fy fx) (fun ρ w' hw => hsp w') ?_) | (show callK _ 150 [.c (.int .i64 o), .c (.int .i64 H), .c (.int .i64 W)] _ _ _ _; refine call_pure (f := 150) Tryz.call150 (pixV tc ty tx) (fun ρ w' hw => hsp2 w') ?_) | (show drawK _ _ _ _ _ _ _ _; refine draw_quiet tabOk mixed (by kernel_rfl) ?_) | (show Wp _ _ _ _ _ _ _; refine Wp.go tabOk rfl ?_) | (show @cmpK _ _ _; (first | refine cmpY ?_ | refine cmpN ?_ | (refine cmp_both ?_ ?_ <;> intro _))) | (show wrapK _ _ _; refine wrapA ?_) | (show leK _ _ _; refine leA ?_) | (show roomK _ _ _; refine roomA ?_) | (show ltK _ _ _; refine ltA ?_) | (show _ ∧ _; refine ⟨?_, ?_⟩) | (show keepK _ _ _ _ _; refine keepA ?_) | refine own_keep ?_ | refine ap_old ?_))
  all_goals (conv => whnf)
  all_goals first | exact ends_of (fun _ _ h => h) (fun _ => by rw [if_pos (by omega)]; rfl) rfl | exact ends_of (fun _ _ h => h) (fun _ => by rw [if_neg (by omega)]; rfl) rfl
end Go.Proofs.YtgndjjdeopfdkaaGreat

/- ML -/
namespace Go.Proofs.YtgndjjdeopfdkaaGreat
open Go.SX Go.RowKit
set_option maxRecDepth 20000 in
set_option maxHeartbeats 4000000 in
theorem wbias_any (w : World) (n : NodeV) (t : IntsV) (hb : n.bias.ok w) (cnt o : Nat) (hc : cnt ≤ 64) (ho : o < cnt) (h3 : n.kind = 3 → n.bias.xs.length = cnt) (h4 : n.kind = 4 → 1 ≤ n.bias.xs.length ∧ n.bias.xs.length ≤ 64 ∧ 0 < cnt / n.bias.xs.length ∧ o / (cnt / n.bias.xs.length) < n.bias.xs.length) :
    Calls Tryz.prog 125 #[weigherV n t, .int .i64 o, .int .i64 cnt] w fun e w' => e = .returned (.int .i64 (biasI n cnt o)) ∧ Ext w w' := by
  have hfew := hb.few
  by_cases hk3 : n.kind = 3
  · have hB : biasI n cnt o = n.bias.xs.getD o 0 := if_pos hk3
    have hl := h3 hk3
    rw [hB]
    obtain ⟨ua, hua⟩ := hb.base (by omega)
    have hur : ∀ (R : Nat → Prop) w', (baseA w).holds R w' → RowsI w' (some ua) 1 (ints n.bias.xs) := fun R w' h => by rw [← hua]; exact rows_base h hb.rows
    refine calls_of tab tabOk Tryz.func125 rfl rfl rfl [] (fun _ => ⟨none, 0⟩) [.agg [.c (.int .i64 n.kind), .c (.int .i64 n.a), .c (.int .i64 n.b), .c n.shape.val, .c (.int .i64 n.lo), .c (.int .i64 n.hi), .c (.int .i64 n.size), .c n.data.val, .c n.bias.val, .c t.val], .c (.int .i64 o), .c (.int .i64 cnt)] [] (baseA w) 0 rfl rfl (by show 3 ≤ _; decide) (abs_base w) ?_
    (repeat' ((conv => whnf) <;> first | (show idxK _ _ _ _ _; refine idx_of ua o hua rfl (by omega) ?_) | (show roK _ _ _; refine ro_int hur (j := o) (by omega) ?_) | (show drawK _ _ _ _ _ _ _ _; refine draw_quiet tabOk mixed (by kernel_rfl) ?_) | (show Wp _ _ _ _ _ _ _; refine Wp.go tabOk rfl ?_) | (show @cmpK _ _ _; (first | refine cmpY ?_ | refine cmpN ?_ | (refine cmp_both ?_ ?_ <;> intro _))) | (show wrapK _ _ _; refine wrapA ?_) | (show leK _ _ _; refine leA ?_) | (show roomK _ _ _; refine roomA ?_) | (show ltK _ _ _; refine ltA ?_) | (show _ ∧ _; refine ⟨?_, ?_⟩) | (show keepK _ _ _ _ _; refine keepA ?_) | refine own_keep ?_ | refine ap_old ?_))
    all_goals (conv => whnf)
    all_goals exact ends_of (fun _ _ h => h) (fun _ => rfl) rfl
  · by_cases hk4 : n.kind = 4
    · obtain ⟨l1, l2, l3, l4⟩ := h4 hk4
      have hB : biasI n cnt o = n.bias.xs.getD (o / (cnt / n.bias.xs.length)) 0 := by rw [biasI, if_neg hk3, if_pos hk4]
      rw [hB]
      obtain ⟨ua, hua⟩ := hb.base (by omega)
      have hur : ∀ (R : Nat → Prop) w', (baseA w).holds R w' → RowsI w' (some ua) 1 (ints n.bias.xs) := fun R w' h => by rw [← hua]; exact rows_base h hb.rows
      refine calls_of tab tabOk Tryz.func125 rfl rfl rfl [] (fun _ => ⟨none, 0⟩) [.agg [.c (.int .i64 n.kind), .c (.int .i64 n.a), .c (.int .i64 n.b), .c n.shape.val, .c (.int .i64 n.lo), .c (.int .i64 n.hi), .c (.int .i64 n.size), .c n.data.val, .c n.bias.val, .c t.val], .c (.int .i64 o), .c (.int .i64 cnt)] [] (baseA w) 0 rfl rfl (by show 3 ≤ _; decide) (abs_base w) ?_
      (repeat' ((conv => whnf) <;> first | (show divK _ _ _ _; (first | refine div_isM (Int.natCast_ediv cnt n.bias.xs.length).symm (by omega) (by omega) (by omega) ?_ | refine div_isM (Int.natCast_ediv o (cnt / n.bias.xs.length)).symm (by omega) (by omega) (by omega) ?_)) | (show idxK _ _ _ _ _; refine idx_of ua (o / (cnt / n.bias.xs.length)) hua rfl l4 ?_) | (show roK _ _ _; refine ro_int hur (j := o / (cnt / n.bias.xs.length)) l4 ?_) | (show drawK _ _ _ _ _ _ _ _; refine draw_quiet tabOk mixed (by kernel_rfl) ?_) | (show Wp _ _ _ _ _ _ _; refine Wp.go tabOk rfl ?_) | (show @cmpK _ _ _; (first | refine cmpY ?_ | refine cmpN ?_ | (refine cmp_both ?_ ?_ <;> intro _))) | (show wrapK _ _ _; refine wrapA ?_) | (show leK _ _ _; refine leA ?_) | (show roomK _ _ _; refine roomA ?_) | (show ltK _ _ _; refine ltA ?_) | (show _ ∧ _; refine ⟨?_, ?_⟩) | (show keepK _ _ _ _ _; refine keepA ?_) | refine own_keep ?_ | refine ap_old ?_))
      all_goals (conv => whnf)
      all_goals exact ends_of (fun _ _ h => h) (fun _ => rfl) rfl
    · have hB : biasI n cnt o = 0 := by rw [biasI, if_neg hk3, if_neg hk4]
      rw [hB]
      refine calls_of tab tabOk Tryz.func125 rfl rfl rfl [] (fun _ => ⟨none, 0⟩) [.agg [.c (.int .i64 n.kind), .c (.int .i64 n.a), .c (.int .i64 n.b), .c n.shape.val, .c (.int .i64 n.lo), .c (.int .i64 n.hi), .c (.int .i64 n.size), .c n.data.val, .c n.bias.val, .c t.val], .c (.int .i64 o), .c (.int .i64 cnt)] [] (baseA w) 0 rfl rfl (by show 3 ≤ _; decide) (abs_base w) ?_
      (repeat' ((conv => whnf) <;> first | (show drawK _ _ _ _ _ _ _ _; refine draw_quiet tabOk mixed (by kernel_rfl) ?_) | (show Wp _ _ _ _ _ _ _; refine Wp.go tabOk rfl ?_) | (show @cmpK _ _ _; (first | refine cmpY ?_ | refine cmpN ?_ | (refine cmp_both ?_ ?_ <;> intro _))) | (show wrapK _ _ _; refine wrapA ?_) | (show leK _ _ _; refine leA ?_) | (show roomK _ _ _; refine roomA ?_) | (show ltK _ _ _; refine ltA ?_) | (show _ ∧ _; refine ⟨?_, ?_⟩) | (show keepK _ _ _ _ _; refine keepA ?_) | refine own_keep ?_ | refine ap_old ?_))
      all_goals (conv => whnf)
      all_goals exact ends_of (fun _ _ h => h) (fun _ => rfl) rfl
def rowW (n : NodeV) (t : List Int) (o : Nat) : List Int := (List.range (entries t).toNat).map fun (i : Nat) => if n.kind = 9 then wgt9 o i else wgtI n t o i
def rowsW (n : NodeV) (t : List Int) (cnt : Nat) : List (List Int) := (List.range cnt).map (rowW n t)
/-- what a node over weights, or a flat one, is, behind an input -/
structure RowsIn (n : NodeV) (t s : List Int) (cnt : Nat) : Prop where
  place : PlaceIn n [t] s t cnt
  kind : isLin n ∨ n.kind = 9
  size : 1 ≤ entries t
theorem weight_any (w : World) (n : NodeV) (t : IntsV) (s : List Int) (cnt : Nat) (h : RowsIn n t.xs s cnt) (hno : n.ok w) (ht : t.ok w) (o i : Nat) (ho : o < cnt) (hi : (i : Int) < entries t.xs) : Calls Tryz.prog 124 #[weigherV n t, .int .i64 o, .int .i64 i] w fun e w' => e = .returned (.int .i64 (if n.kind = 9 then wgt9 o i else wgtI n t.xs o i)) ∧ Ext w w' := by
  have hc := h.place.few
  have heb := (entries_bd t.xs).2
  rcases h.kind with hl | h9
  · have h9 : n.kind ≠ 9 := by rcases hl with g | g | g <;> omega
    rw [if_neg h9]
    rcases lin_cases h.place hl with ⟨hk, size, hsz, hdl, hbl⟩ | ⟨k0, k1, k2, k3, i1, i2, hL⟩ | ⟨i0, i1, i2, hL⟩
    · exact weight3_any w n t hno.data hk size cnt hsz hdl hbl hc.2 (by omega) o i ho (by omega)
    · exact weight4_any w n t hno ht cnt hc.2 hL o i ho hi
    · exact weight5_any w n t ht cnt hc.2 hL o i ho hi
  · rw [if_pos h9]
    exact weight9_any w n t h9 o i
theorem bias_of (w : World) (n : NodeV) (t : IntsV) (s : List Int) (cnt : Nat) (h : RowsIn n t.xs s cnt) (hno : n.ok w) (o : Nat) (ho : o < cnt) : Calls Tryz.prog 125 #[weigherV n t, .int .i64 o, .int .i64 cnt] w fun e w' => e = .returned (.int .i64 (biasI n cnt o)) ∧ Ext w w' := by
  have hc := h.place.few
  rcases h.kind with hl | h9
  · rcases lin_cases h.place hl with ⟨hk, size, hsz, hdl, hbl⟩ | ⟨k0, k1, k2, k3, i1, i2, hL⟩ | ⟨i0, i1, i2, hL⟩
    · exact wbias_any w n t hno.bias cnt o hc.2 ho (fun _ => hbl) (fun h4 => by omega)
    · refine wbias_any w n t hno.bias cnt o hc.2 ho (fun h3 => by have := hL.kind; omega) fun _ => ?_
      have hb := hL.bias
      have b0 := hL.b0
      have hcnt := hL.cnt
      have b2 := hL.b2
      have b3 := hL.b3
      obtain ⟨q, hq⟩ : ∃ q : Nat, (i1 - k2 + 1) * (i2 - k3 + 1) = q := Int.eq_ofNat_of_zero_le (Int.mul_nonneg (by omega) (by omega))
      have hq1 : 1 ≤ q := by
        have := Int.mul_pos (show 0 < i1 - k2 + 1 by omega) (show 0 < i2 - k3 + 1 by omega)
        omega
      have e1 : cnt = n.bias.xs.length * q := by
        rw [Int.mul_assoc, hq, ← hb, ← Int.natCast_mul] at hcnt
        exact Int.ofNat.inj hcnt
      have e2 : cnt / n.bias.xs.length = q := by rw [e1, Nat.mul_div_cancel_left _ (by omega)]
      rw [e2]
      exact ⟨by omega, by omega, hq1, (Nat.div_lt_iff_lt_mul (by omega)).2 (by rw [← e1]; exact ho)⟩
    · exact wbias_any w n t hno.bias cnt o hc.2 ho (fun h3 => by have := hL.kind; omega) (fun h4 => by have := hL.kind; omega)
  · exact wbias_any w n t hno.bias cnt o hc.2 ho (fun h3 => by omega) (fun h4 => by omega)
end Go.Proofs.YtgndjjdeopfdkaaGreat

/- MM -/
namespace Go.Proofs.YtgndjjdeopfdkaaGreat
open Go.SX Go.RowKit
def nilV : IntsV := ⟨none, 0, []⟩
def inpN (t : IntsV) : NodeV := ⟨1, 0, 0, t, 0, 0, 0, nilV, nilV⟩
def chk2 (n : NodeV) (t : IntsV) : Int × List (List Int) := check ⟨none, 0, [inpN t, n], 1⟩
theorem chk2_eq (n : NodeV) (t : IntsV) (b : Option Addr) (c : Nat) : check ⟨b, c, [inpN t, n], 1⟩ = chk2 n t := by unfold chk2 check; rfl
def okRows (n : NodeV) (t : IntsV) : Prop := (isLin n ∨ n.kind = 9) ∧ n.a = 0 ∧ (chk2 n t).1 = 0
instance (n : NodeV) (t : IntsV) : Decidable (okRows n t) := by unfold okRows; infer_instance
def cntR (n : NodeV) (t : IntsV) : Nat := (entries ((chk2 n t).2.getD 1 [])).toNat
def rowsR (n : NodeV) (t : IntsV) : (List (List Int) × List Int) × Int := if okRows n t then ((rowsW n t.xs (cntR n t), (List.range (cntR n t)).map (biasI n (cntR n t))), 0) else (([], []), 3)
theorem rows_in {n : NodeV} {t : IntsV} (h : okRows n t) : ∃ s, (chk2 n t).2 = [t.xs, s] ∧ entries s = cntR n t ∧ RowsIn n t.xs s (cntR n t) := by
  obtain ⟨hk, ha, hc⟩ := h
  obtain ⟨h1, h2, h3, h4, h5⟩ := check_in (g := ⟨none, 0, [inpN t, n], 1⟩) hc
  obtain ⟨s0, e0, n0⟩ := h5 0 (inpN t) rfl
  obtain ⟨s1, e1, n1⟩ := h5 1 n rfl
  have hs0 : s0 = t.xs := by
    have := n0.shape
    unfold shapeO at this
    rw [if_pos (.inl rfl)] at this
    exact (Option.some.inj this).symm
  have hl : (chk2 n t).2.length = 2 := h4
  have hsh : (chk2 n t).2 = [t.xs, s1] := by
    have a0 : (chk2 n t).2[0]? = some s0 := e0
    have a1 : (chk2 n t).2[1]? = some s1 := e1
    match hq : (chk2 n t).2, hl with
    | [x, y], _ =>
      rw [hq] at a0 a1
      simp at a0 a1
      rw [a0, a1, hs0]
  obtain ⟨_, _, cnt, hcnt, hp⟩ := place_in (g := ⟨none, 0, [inpN t, n], 1⟩) hc (i := 1) (n := n) rfl
  have e2 : (check ⟨none, 0, [inpN t, n], 1⟩).2 = [t.xs, s1] := hsh
  rw [e2, ha] at hp
  rw [e2] at hcnt
  have hc2 : cntR n t = cnt := by
    unfold cntR
    rw [hsh, hcnt]; rfl
  refine ⟨s1, hsh, by rw [hc2]; exact hcnt, by rw [hc2]; exact hp, hk, ?_⟩
  have := hp.pos t.xs List.mem_cons_self
  omega
def RowsPost (w : World) (r : (List (List Int) × List Int) × Int) : Ending → World → Prop := fun e w' => ∃ (x : ShapesV) (y : IntsV), (DiagIs r.1.1 x ∧ y.xs = r.1.2 ∧ y.sane) ∧ e = .returned (.tuple #[x.val, y.val, .int .i64 r.2]) ∧ Ext w w' ∧ (diagA x).holds (fun b => w.heap.size ≤ b ∧ b < w'.heap.size) w' ∧ (intsA y).holds (fun b => w.heap.size ≤ b ∧ b < w'.heap.size) w'
theorem rows_fail {w : World} {B : Base} {H : Heap} {S : Asn} {nx : Nat} {n : NodeV} {t : IntsV} (hno : ¬ okRows n t) (hb : ∀ R w', S.holds R w' → (baseA B.w0).holds R w') (hw0 : B.w0 = w) : finK B (.tup [.c (.slice none 0 0), .c (.slice none 0 0), .c (.int .i64 3)]) H S nx (RowsPost w (rowsR n t)) := by
  subst hw0
  rw [rowsR, if_neg hno]
  refine fin_of fun ρ w' hw => ⟨⟨none, 0, []⟩, ⟨none, 0, []⟩, ⟨⟨rfl, fun _ h => (by cases h), Nat.le_refl _⟩, rfl, ⟨fun _ h => (by cases h), Nat.le_refl _, by decide⟩⟩, rfl, ext_of_abs hw hb, ⟨⟨fun _ h => (by cases h), .inl rfl⟩, fun _ h => (by cases h)⟩, ⟨fun _ h => (by cases h), .inl rfl⟩⟩
/-- a row so far: nil, or somewhere with room -/
def RIs (p : DCell) : Prop := (p.1 = ⟨none, 0⟩ ∧ p.2 = []) ∨ ((∃ b off, p.1.base = some ⟨b, off, none⟩) ∧ p.2 ≠ [] ∧ p.2.length ≤ p.1.cap)
theorem rows_end {w : World} {B : Base} {H : Heap} {S : Asn} {nx i g j n m : Nat} {L : List DCell} {bs : List Int} {r : (List (List Int) × List Int) × Int} (hb : ∀ R w', S.holds R w' → (baseA B.w0).holds R w') (hw0 : B.w0 = w) (hL : ∀ p ∈ L, RIs p) (hf : ∀ p ∈ L, (∀ x ∈ p.2, i64 x) ∧ p.2.length ≤ 1000000) (hm : m = L.length) (hn : n = bs.length) (hbf : ∀ x ∈ bs, i64 x) (hbl : bs.length ≤ 1000000)
    (hi : (i, Ent.rows (dRows L) 1 32) ∈ H) (hg : (g, Ent.ext (grpO 3 (dGrp L))) ∈ H) (hj : (j, Ent.rows (ints bs) 1 3) ∈ H) (hr : r = ((L.map Prod.snd, bs), 0)) :
    finK B (.tup [.os i m, .os j n, .c (.int .i64 0)]) H S nx (RowsPost w r) := by
  subst hw0 hm hn hr
  refine fin_of fun ρ w' hw => ?_
  have hn1 := new_of_abs hw hb hi
  have hsh : dRows L = shRows (L.map dInt) := by simp [dRows, shRows, dRow, dInt, IntsV.val]
  rw [hsh] at hn1
  obtain ⟨base, cap, e, h1, h2⟩ : ∃ base cap, (SV.os i (shRows (L.map dInt)).length).rf ρ = .slice base (L.map dInt).length cap ∧ (L.map dInt).length ≤ cap ∧ (rowsA base 1 (shRows (L.map dInt))).holds (fun b => B.w0.heap.size ≤ b ∧ b < w'.heap.size) w' := by
    obtain ⟨base, cap, e, h1⟩ := newRows_data hn1
    obtain ⟨lc, e2, F, hF, hr, hcap, _⟩ := hn1
    rw [e2] at e
    simp only [Value.slice.injEq] at e
    obtain ⟨e3, _, e4⟩ := e
    refine ⟨base, cap, ?_, ?_, h1⟩
    · rw [e2, e3, e4, shRows_length]
    · rw [← e4]; simpa [shRows_length] using hcap
  have hlen : (shRows (L.map dInt)).length = L.length := by rw [shRows_length, List.length_map]
  rw [hlen] at e
  have hn2 := new_of_abs hw hb hj
  rw [ints_length] at hn2
  obtain ⟨y, ey, y1, y2, y3⟩ := newInts hn2 hbf hbl
  refine ⟨⟨base, cap, L.map dInt⟩, y, ⟨⟨by simp [dInt], fun u hu => ?_, h1⟩, y1, y2⟩, ?_, ext_of_abs hw hb, ⟨h2, fun u hu => ?_⟩, y3⟩
  · obtain ⟨p, hp, rfl⟩ := List.mem_map.1 hu
    rcases hL p hp with ⟨e1, e2⟩ | ⟨_, e2, e3⟩
    · exact ⟨(hf p hp).1, by simp [dInt, e2], by simp [dInt, e2]⟩
    · exact ⟨(hf p hp).1, e3, (hf p hp).2⟩
  · have : (SV.tup [.os i L.length, .os j bs.length, .c (.int .i64 0)]).rf ρ = .tuple #[(SV.os i L.length).rf ρ, (SV.os j bs.length).rf ρ, .int .i64 0] := rfl
    rw [this, e, ey, List.length_map]
    simp [ShapesV.val]
  · obtain ⟨p, hp, rfl⟩ := List.mem_map.1 hu
    rcases hL p hp with ⟨e1, e2⟩ | ⟨⟨b, off, e1⟩, e2, e3⟩
    · show (rowsA (dInt p).base 1 (ints (dInt p).xs)).holds _ w'
      have : (dInt p).xs = [] := e2
      rw [this]
      exact ⟨fun r hr => (by cases hr), .inl rfl⟩
    · have hp' : ((p.1, p.2.map (Value.int .i64)) : Cell1) ∈ dGrp L := List.mem_map.2 ⟨p, hp, rfl⟩
      obtain ⟨g1, g2, g3⟩ := grp_new hw hb hg hp' e1
      refine ⟨ints_row, .inr ⟨b, off, e1, ⟨g1, g2⟩, fun k r hk j v hj => ?_⟩⟩
      have hkl : k < p.2.length := by
        have := (List.getElem?_eq_some_iff.1 hk).1
        rwa [ints_length] at this
      have hk' : (ints p.2)[k]? = some r := hk
      rw [ints_get hkl] at hk'
      obtain rfl : [Value.int .i64 p.2[k]] = r := by simpa using hk'
      have hj0 : j = 0 := by
        rcases Nat.eq_zero_or_pos j with h | h
        · exact h
        · rw [List.getElem?_eq_none (by show 1 ≤ j; exact h)] at hj; cases hj
      subst hj0
      have := g3 k (Value.int .i64 p.2[k]) (by simp [hkl])
      obtain rfl : Value.int .i64 p.2[k] = v := by simpa using hj
      simpa using this
end Go.Proofs.YtgndjjdeopfdkaaGreat

/- MN -/
namespace Go.Proofs.YtgndjjdeopfdkaaGreat
abbrev dtMN0 : Go.SX.DT := (.take 0 (.take 2 (.alt 1 (.take 4 (.one 3 (.take 5 (.done)))) (.one 3 (.one 1 (.take 4 (.take 5 (.done))))))))
abbrev dtMN1 : Go.SX.DT := (.take 0 (.take 1 (.take 2 (.take 3 (.take 4 (.take 5 (.take 6 (.take 7 (.take 8 (.one 9 (.one 10 (.one 11 (.take 12 (.one 13 (.done)))))))))))))))
open Go.SX Go.RowKit
theorem g2n_ok {l1 : SX.Loc} {R : Nat → Prop} {w : World} {n : NodeV} {t : IntsV} (hn : n.ok w) (hsm : n.small) (ht : t.ok w) (h : ((rowsA l1.base 9 (nodeRows [inpN t, n])).past 0).holds R w) : (⟨l1.base, l1.cap, [inpN t, n], 1⟩ : GraphV).ok w := by
  have z : i64 0 := ⟨by decide, by decide⟩
  have nv : nilV.ok w := ⟨.inl rfl, fun _ h => (by cases h), Nat.le_refl _, by decide⟩
  refine ⟨rowsA_in h, fun m hm => ?_, fun m hm => ?_, (show 2 ≤ 1000000 by decide), (show i64 1 from ⟨by decide, by decide⟩)⟩
  · rcases List.mem_cons.1 hm with rfl | hm
    · exact ⟨ht, nv, nv, (show i64 1 from ⟨by decide, by decide⟩), z, z, z, z, z⟩
    · rw [List.mem_singleton.1 hm]; exact hn
  · rcases List.mem_cons.1 hm with rfl | hm
    · exact ⟨Nat.zero_le _, Nat.zero_le _⟩
    · rw [List.mem_singleton.1 hm]; exact hsm
theorem call_check3 {cx : Cx} {f : FuncId} {args : List SV} {H : Heap} {S : Asn} {nx : Nat} {K : SV → Heap → Asn → Nat → Prop} (r : Int × List (List Int)) (hf : ∀ ar w, (callFunc f ar).run cx.P w = .ok (.enter f ar) w)
    (hc : ∀ ρ w', Abs cx.B ρ nx H S w' → Calls cx.P f (SV.rfs ρ args).toArray w' (CheckPost w' r))
    (h0 : r.1 ≠ 0 → K (.c (.tuple #[.slice none 0 0, .int .i64 r.1])) H S nx)
    (h1 : r.1 = 0 → ∀ sv : ShapesV, sv.l.map (·.xs) = r.2 → (∀ u ∈ sv.l, u.sane) → (0 < sv.l.length → ∃ a, sv.base = some a) → K (.c (.tuple #[sv.val, .int .i64 0])) H (S.and ((shapesD sv).past cx.B.w0.heap.size)) nx) : callK cx f args H S nx K := by
  rw [callK_def]
  refine ⟨hf, fun ρ w hw => (hc ρ w hw).mono ?_⟩
  rintro e w' ⟨v, rfl, he, hbad, hgood⟩
  by_cases hr : r.1 = 0
  · obtain ⟨sv, rfl, hm, hs, hd, hcap⟩ := hgood hr
    rw [hr]
    exact ⟨.c (.tuple #[sv.val, .int .i64 0]), ρ, H, _, nx, rfl, fun _ _ => rfl, Nat.le_refl _, SV.lt_c _, hw.grow he hd, h1 hr sv hm hs (fun h0 => base_some (j := 0) (rowsA_in hd.1) (by rw [shRows_length]; exact h0))⟩
  · rw [hbad hr]
    exact ⟨.c (.tuple #[.slice none 0 0, .int .i64 r.1]), ρ, H, S, nx, rfl, fun _ _ => rfl, Nat.le_refl _, SV.lt_c _, hw.ext he, h0 hr⟩
set_option maxRecDepth 20000 in
set_option maxHeartbeats 8000000 in
theorem rowsLin_no (w : World) (n : NodeV) (t : IntsV) (hn : n.ok w) (hsm : n.small) (ht : t.ok w) (hno : ¬ okRows n t) : Calls Tryz.prog 63 #[n.valA, t.val] w (RowsPost w (rowsR n t)) := by
  by_cases hk : isLin n ∨ n.kind = 9
  · have hkk := hk
    unfold isLin at hk
    refine calls_of tab tabOk Tryz.func63 rfl rfl rfl [] (fun _ => ⟨none, 0⟩) [.agg [.c (.int .i64 n.kind), .c (.int .i64 n.a), .c (.int .i64 n.b), .c n.shape.val, .c (.int .i64 n.lo), .c (.int .i64 n.hi), .c (.int .i64 n.size), .c n.data.val, .c n.bias.val], .c t.val] [] (baseA w) 0 rfl rfl (by show 2 ≤ _; decide) (abs_base w) ?_
    (repeat' ((conv => whnf) <;> first | (show drawK _ 14 _ _ _ _ _ _; refine draw_tree tabOk mixed [] _ dtMN0 (by kernel_rfl) (by kernel_rfl) (by kernel_rfl) (List.Sublist.refl _) ?_) | (show drawK _ 22 _ _ _ _ _ _; refine draw_tree tabOk mixed [13] _ dtMN1 (by kernel_rfl) (by kernel_rfl) (by kernel_rfl) (List.Sublist.refl _) ?_) | (show Wp _ _ _ _ _ _ _; refine Wp.go tabOk rfl ?_) | (show @cmpK _ _ _; (first | refine cmpY ?_ | refine cmpN ?_ | (refine cmp_both ?_ ?_ <;> intro _))) | (show wrapK _ _ _; refine wrapA ?_) | (show leK _ _ _; refine leA ?_) | (show roomK _ _ _; refine roomA ?_) | (show ltK _ _ _; refine ltA ?_) | (show _ ∧ _; refine ⟨?_, ?_⟩) | (show keepK _ _ _ _ _; refine keepA ?_) | refine ap_old ?_))
    all_goals first | (exfalso; omega) | skip
    all_goals
      (repeat' ((conv => whnf) <;> first | (show drawK _ 14 _ _ _ _ _ _; refine draw_tree tabOk mixed [] _ dtMN0 (by kernel_rfl) (by kernel_rfl) (by kernel_rfl) (List.Sublist.refl _) ?_) | (show drawK _ 22 _ _ _ _ _ _; refine draw_tree tabOk mixed [13] _ dtMN1 (by kernel_rfl) (by kernel_rfl) (by kernel_rfl) (List.Sublist.refl _) ?_) | (show Wp _ _ _ _ _ _ _; refine Wp.go tabOk rfl ?_) | (show @cmpK _ _ _; (first | refine cmpY ?_ | refine cmpN ?_ | (refine cmp_both ?_ ?_ <;> intro _))) | (show wrapK _ _ _; refine wrapA ?_) | (show leK _ _ _; refine leA ?_) | (show roomK _ _ _; refine roomA ?_) | (show ltK _ _ _; refine ltA ?_) | (show _ ∧ _; refine ⟨?_, ?_⟩) | (show keepK _ _ _ _ _; refine keepA ?_) | refine ap_old ?_))
      refine own_freeze 0 (fun _ _ _ _ hb => absurd hb (Nat.not_lt_zero _)) (fun l1 hl1 => ?_)
      (repeat' ((conv => whnf) <;> first | (show callK _ 24 _ _ _ _ _; (refine call_check (f := 24) (chk2 n t) Tryz.call24 (fun ρ w' hw => by have := check_any w' ⟨l1.base, l1.cap, [inpN t, n], 1⟩ (holds_of_abs hw fun R h => g2n_ok (hn.later h.1) hsm (ht.later h.1) h.2); rw [chk2_eq] at this; exact this) (fun hne => ?_) (fun he sv hm hsv => ?_))) | (show @cmpK _ _ _; (first | refine cmp_yes (by omega) ?_ | refine cmp_no (fun h => h rfl) ?_ | refine cmp_yes (fun h => hno ⟨hkk, h, he⟩) ?_)) | (show drawK _ 14 _ _ _ _ _ _; refine draw_tree tabOk mixed [] _ dtMN0 (by kernel_rfl) (by kernel_rfl) (by kernel_rfl) (List.Sublist.refl _) ?_) | (show drawK _ 22 _ _ _ _ _ _; refine draw_tree tabOk mixed [13] _ dtMN1 (by kernel_rfl) (by kernel_rfl) (by kernel_rfl) (List.Sublist.refl _) ?_) | (show Wp _ _ _ _ _ _ _; refine Wp.go tabOk rfl ?_) | (show @cmpK _ _ _; (first | refine cmpY ?_ | refine cmpN ?_ | (refine cmp_both ?_ ?_ <;> intro _))) | (show wrapK _ _ _; refine wrapA ?_) | (show leK _ _ _; refine leA ?_) | (show roomK _ _ _; refine roomA ?_) | (show ltK _ _ _; refine ltA ?_) | (show _ ∧ _; refine ⟨?_, ?_⟩) | (show keepK _ _ _ _ _; refine keepA ?_) | refine ap_old ?_))
      all_goals (conv => whnf)
      all_goals first | exact rows_fail hno (fun _ _ h => h.1) rfl | exact rows_fail hno (fun _ _ h => h.1.1) rfl
  · have hk' : n.kind ≠ 3 ∧ n.kind ≠ 4 ∧ n.kind ≠ 5 ∧ n.kind ≠ 9 := ⟨fun g => hk (.inl (.inl g)), fun g => hk (.inl (.inr (.inl g))), fun g => hk (.inl (.inr (.inr g))), fun g => hk (.inr g)⟩
    refine calls_of tab tabOk Tryz.func63 rfl rfl rfl [] (fun _ => ⟨none, 0⟩) [.agg [.c (.int .i64 n.kind), .c (.int .i64 n.a), .c (.int .i64 n.b), .c n.shape.val, .c (.int .i64 n.lo), .c (.int .i64 n.hi), .c (.int .i64 n.size), .c n.data.val, .c n.bias.val], .c t.val] [] (baseA w) 0 rfl rfl (by show 2 ≤ _; decide) (abs_base w) ?_
    (repeat' ((conv => whnf) <;> first | (show drawK _ 14 _ _ _ _ _ _; refine draw_tree tabOk mixed [] _ dtMN0 (by kernel_rfl) (by kernel_rfl) (by kernel_rfl) (List.Sublist.refl _) ?_) | (show drawK _ 22 _ _ _ _ _ _; refine draw_tree tabOk mixed [13] _ dtMN1 (by kernel_rfl) (by kernel_rfl) (by kernel_rfl) (List.Sublist.refl _) ?_) | (show Wp _ _ _ _ _ _ _; refine Wp.go tabOk rfl ?_) | (show @cmpK _ _ _; (first | refine cmpY ?_ | refine cmpN ?_ | (refine cmp_both ?_ ?_ <;> intro _))) | (show wrapK _ _ _; refine wrapA ?_) | (show leK _ _ _; refine leA ?_) | (show roomK _ _ _; refine roomA ?_) | (show ltK _ _ _; refine ltA ?_) | (show _ ∧ _; refine ⟨?_, ?_⟩) | (show keepK _ _ _ _ _; refine keepA ?_) | refine ap_old ?_))
    all_goals (conv => whnf)
    all_goals first | (exfalso; omega) | exact rows_fail hno (fun _ _ h => h) rfl
end Go.Proofs.YtgndjjdeopfdkaaGreat

