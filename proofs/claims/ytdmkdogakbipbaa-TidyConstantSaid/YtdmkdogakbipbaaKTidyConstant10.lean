import Derived.Test.YtdmkdogakbipbaaKTidyConstant9
/- NV -/
namespace Go.Proofs.Ytdmkdogakbipbaa
open Go.SX Go.RowKit
structure RegW (cx : Cx) (ops : Array Oper) (l : List Oper) (env : Env) (H : Heap) (S : Asn) (nx : Nat) (K : Env → Heap → Asn → Nat → Prop) : Prop where
  out : ∀ ρ a w (Q : Exit → Act → World → Prop), Sat cx.n ρ nx env a → Abs cx.B ρ nx H S w →
    (∀ ρ' a' env' H' S' nx' w', (∀ i, i < nx → ρ' i = ρ i) → nx ≤ nx' → Sat cx.n ρ' nx' env' a' → Abs cx.B ρ' nx' H' S' w' → K env' H' S' nx' → Q .normal a' w') → wpList cx.P ops Q l a w
def regKW (cx : Cx) (ops : Array Oper) : Nat → List Oper → Env → Heap → Asn → Nat → (Env → Heap → Asn → Nat → Prop) → Prop
  | 0, l, env, H, S, nx, K => RegW cx ops l env H S nx K
  | _ + 1, [], env, H, S, nx, K => K env H S nx
  | n + 1, o :: r, env, H, S, nx, K => guardK cx.n ops.toList o.guard env (fun b => match b with
    | true => opE cx o.op env H S nx (fun v H' S' nx' => putEK env o.dst v fun env' => regKW cx ops n r env' H' S' nx' K)
    | false => putEK env o.dst (.c undef) fun env' => regKW cx ops n r env' H S nx K)
section
variable {cx : Cx} (hok : ∀ p ∈ cx.tab, mkTI cx.P p.1 = some p.2)
include hok in
theorem regKW_sound {ops : Array Oper} : ∀ {n : Nat} {l : List Oper} {env : Env} {H : Heap} {S : Asn} {nx : Nat} {K : Env → Heap → Asn → Nat → Prop}, regKW cx ops n l env H S nx K → RegW cx ops l env H S nx K
  | 0, l, env, H, S, nx, K, h => h
  | n + 1, [], env, H, S, nx, K, h => ⟨fun ρ a w Q hs hw hq => hq ρ a env H S nx w (fun _ _ => rfl) (Nat.le_refl _) hs hw h⟩
  | n + 1, o :: r, env, H, S, nx, K, h => by
    refine ⟨fun ρ a w Q hs hw hq => ?_⟩
    unfold regKW at h
    have h := guardK_spec hs h
    unfold wpList
    cases hwt : Region.wanted o (yielded ops a.tmps) with
    | true =>
      rw [hwt] at h
      dsimp only at h
      rw [if_pos rfl]
      refine .inl (opE_sound hok h hs hw ?_)
      intro v ρ' H' S' nx' w' h1 h2 h3 h4 h5
      rw [putEK_eq] at h5
      refine (regKW_sound h5).out _ _ _ _ (hs.put h1 h2 h3) h4 ?_
      intro ρ'' a'' env'' H'' S'' nx'' w'' g1 g2 g4 g5 g6
      exact hq ρ'' a'' env'' H'' S'' nx'' w'' (fun i hi => (g1 i (Nat.lt_of_lt_of_le hi h2)).trans (h1 i hi)) (Nat.le_trans h2 g2) g4 g5 g6
    | false =>
      rw [hwt] at h
      dsimp only at h
      rw [if_neg (by simp)]
      have hp := hs.put (ρ' := ρ) (nx' := nx) (d := o.dst) (v := .c undef) (fun _ _ => rfl) (Nat.le_refl _) (SV.lt_c _)
      rw [putEK_eq] at h
      refine (regKW_sound h).out _ _ _ _ hp hw ?_
      intro ρ'' a'' env'' H'' S'' nx'' w'' g1 g2 g4 g5 g6
      exact hq ρ'' a'' env'' H'' S'' nx'' w'' g1 g2 g4 g5 g6
include hok in
theorem Wp.reg {id : Nat} {ops : Array Oper} {env : Env} {H : Heap} {S : Asn} {nx : Nat} {K : Exit → Env → Heap → Asn → Nat → Prop} (n : Nat) (h : regKW cx ops n ops.toList env H S nx (fun env' H' S' nx' => K .normal env' H' S' nx')) : Wp cx (.region id ops false) env H S nx K := by
  rw [Wp_def]
  intro ρ a w hs hw
  refine wp_region_list ((regKW_sound hok h).out ρ a w _ hs hw ?_)
  intro ρ' a' env' H' S' nx' w' g1 g2 g4 g5 g6
  exact ⟨ρ', env', H', S', nx', g1, g2, g4, g5, g6⟩
include hok in
theorem RegW.go {ops : Array Oper} {l : List Oper} {env : Env} {H : Heap} {S : Asn} {nx : Nat} {K : Env → Heap → Asn → Nat → Prop} (n : Nat) (h : regKW cx ops n l env H S nx K) : RegW cx ops l env H S nx K := regKW_sound hok h
include hok in
theorem RegW.peek {ops : Array Oper} {o : Oper} {r : List Oper} {env : Env} {H : Heap} {S : Asn} {nx : Nat} {K : Env → Heap → Asn → Nat → Prop} (S2 : Value → Asn) (p : Value → Prop) (hg : o.guard = none)
    (hT : ∀ ρ w, Abs cx.B ρ nx H S w → ∃ v, p v ∧ Abs cx.B ρ nx [] (S2 v) w) (hq : ∀ v, p v → opQ cx o.op env [] (S2 v) (fun x => x = .c v))
    (h : ∀ v, p v → putEK env o.dst (.c v) fun env' => RegW cx ops r env' H S nx K) : RegW cx ops (o :: r) env H S nx K := by
  refine ⟨fun ρ a w Q hs hw hqq => ?_⟩
  unfold wpList
  have hwt : Region.wanted o (yielded ops a.tmps) = true := by unfold Region.wanted; rw [hg]
  rw [hwt, if_pos rfl]
  obtain ⟨v, hp, hw2⟩ := hT ρ w hw
  obtain ⟨x, h1, rfl, h3⟩ := opQ_sound hok hs hw2 (hq v hp)
  refine .inl ?_
  unfold Oper.wp
  rw [h3 w hw2, Oper.upon_value]
  have h5 := h v hp
  rw [putEK_eq] at h5
  exact h5.out _ _ _ _ (hs.put (fun _ _ => rfl) (Nat.le_refl _) (SV.lt_c _)) hw hqq
end
def dataO (us : List IntsV) (ex : Bool) : Own where
  holds _ F w := (∀ x, F x → ∃ u ∈ us, u.xs ≠ [] ∧ ∃ off, u.base = some ⟨x, off, none⟩) ∧
    ∀ u ∈ us, u.xs = [] ∨ ∃ b off c, u.base = some ⟨b, off, none⟩ ∧ F b ∧ w.heap[b]? = some (.cells c 3 (0, 0)) ∧ off + u.xs.length ≤ c.size ∧ ∀ i, i < u.xs.length → ∃ v : Int, c[off + i]? = some (.int .i64 v) ∧ (ex = true → u.xs[i]? = some v)
  stable := by
    rintro l F w w' hw ⟨h1, h2⟩
    refine ⟨h1, fun u hu => ?_⟩
    rcases h2 u hu with h | ⟨b, off, c, g1, g2, g3, g4⟩
    · exact .inl h
    · exact .inr ⟨b, off, c, g1, g2, (hw b g2).trans g3, g4⟩
  lt := by
    rintro l F w x ⟨h1, h2⟩ hx
    obtain ⟨u, hu, hne, off, hb⟩ := h1 x hx
    rcases h2 u hu with h | ⟨b, off', c, g1, g2, g3, g4⟩
    · exact absurd h hne
    · rw [hb] at g1
      simp only [Option.some.injEq, Addr.mk.injEq, and_true] at g1
      obtain ⟨rfl, rfl⟩ := g1
      exact (Array.getElem?_eq_some_iff.1 g3).1
theorem data_rows {us : List IntsV} {F : Nat → Prop} {w : World} {l : SX.Loc} (h : (dataO us true).holds l F w) {u : IntsV} (hu : u ∈ us) : RowsI w u.base 1 (ints u.xs) := by
  rcases h.2 u hu with h | ⟨b, off, c, g1, g2, g3, g4, g5⟩
  · left; rw [h]; rfl
  · refine .inr ⟨_, g1, fun i r hi j v hj => ?_⟩
    have hil : i < u.xs.length := by have := (List.getElem?_eq_some_iff.1 hi).1; rwa [ints_length] at this
    rw [ints_get hil] at hi
    simp only [Option.some.injEq] at hi
    subst hi
    cases j with
    | zero =>
      simp only [List.getElem?_cons_zero, Option.some.injEq] at hj
      subst hj
      obtain ⟨v, h1, h2⟩ := g5 i hil
      have e := h2 rfl
      rw [List.getElem?_eq_getElem hil, Option.some.injEq] at e
      subst e
      rw [add_none]
      simp [World.cell?, g3, h1]
    | succ j => simp at hj
def cellA (a : Addr) (v : Value) : Asn where
  holds R w := R a.block ∧ w.cell? a = some v
  stable := fun hR hw h => ⟨hR _ h.1, by rw [cell_same (hw _ h.1)]; exact h.2⟩
end Go.Proofs.Ytdmkdogakbipbaa

/- NW -/
namespace Go.Proofs.Ytdmkdogakbipbaa
open Go.SX Go.RowKit
def partsL (l : List NodeV) : List IntsV := l.flatMap fun n => [n.shape, n.data, n.bias]
theorem parts_in {l : List NodeV} {n : NodeV} (h : n ∈ l) : n.shape ∈ partsL l ∧ n.data ∈ partsL l ∧ n.bias ∈ partsL l := by
  unfold partsL
  simp only [List.mem_flatMap]
  exact ⟨⟨n, h, by simp⟩, ⟨n, h, by simp⟩, ⟨n, h, by simp⟩⟩
theorem parts_data {l : List NodeV} {F : Nat → Prop} {w : World} {lo : SX.Loc} (hl : ∀ n ∈ l, (nodeT n).holds F w) : (dataO (partsL l) true).holds lo (fun x => ∃ u ∈ partsL l, u.xs ≠ [] ∧ ∃ off, u.base = some ⟨x, off, none⟩) w := by
  refine ⟨fun x hx => hx, fun u hu => ?_⟩
  unfold partsL at hu
  simp only [List.mem_flatMap, List.mem_cons, List.not_mem_nil, or_false] at hu
  obtain ⟨n, hn, hu'⟩ := hu
  have hT : (intsT u).holds F w := by
    have h := hl n hn
    rcases hu' with rfl | rfl | rfl
    · exact h.1
    · exact h.2.1
    · exact h.2.2
  have hm : u ∈ partsL l := by
    rcases hu' with rfl | rfl | rfl
    · exact (parts_in hn).1
    · exact (parts_in hn).2.1
    · exact (parts_in hn).2.2
  by_cases h0 : u.xs = []
  · exact .inl h0
  rcases hT with h | ⟨b, off, c, h1, h2, h3, h4, h5⟩
  · exact .inl h
  · refine .inr ⟨b, off, c, h1, ⟨u, hm, h0, off, h1⟩, h3, h4, fun i hi => ⟨u.xs[i], h5 i _ (List.getElem?_eq_getElem hi), fun _ => List.getElem?_eq_getElem hi⟩⟩
theorem parts_F {l : List NodeV} {F : Nat → Prop} {w : World} (hl : ∀ n ∈ l, (nodeT n).holds F w) {x : Nat} (h : ∃ u ∈ partsL l, u.xs ≠ [] ∧ ∃ off, u.base = some ⟨x, off, none⟩) : F x := by
  obtain ⟨u, hu, h0, off, hb⟩ := h
  unfold partsL at hu
  simp only [List.mem_flatMap, List.mem_cons, List.not_mem_nil, or_false] at hu
  obtain ⟨n, hn, hu'⟩ := hu
  have hT : (intsT u).holds F w := by
    have h := hl n hn
    rcases hu' with rfl | rfl | rfl
    · exact h.1
    · exact h.2.1
    · exact h.2.2
  rcases hT with h | ⟨b, off', c, h1, h2, _⟩
  · exact absurd h h0
  · rw [hb] at h1
    simp only [Option.some.injEq, Addr.mk.injEq, and_true] at h1
    obtain ⟨rfl, rfl⟩ := h1
    exact h2
/-- tidied: its numbers one's own -/
theorem call_tidyW {cx : Cx} {f : FuncId} {args : List SV} {H : Heap} {S : Asn} {nx : Nat} {K : SV → Heap → Asn → Nat → Prop} (r : Int) (x : List NodeP × Nat) (hf : ∀ ar w, (callFunc f ar).run cx.P w = .ok (.enter f ar) w)
    (hc : ∀ ρ w', Abs cx.B ρ nx H S w' → Calls cx.P f (SV.rfs ρ args).toArray w' (TidyPost w' r x))
    (h0 : r ≠ 0 → K (.c (.tuple #[.agg #[.slice none 0 0, .int .i64 0], .int .i64 r])) H S nx)
    (h1 : r = 0 → ∀ (l : List NodeV) (base : Option Addr) (cap : Nat), l.map NodeV.pl = x.1 → KeptOk l → K (.c (.tuple #[.agg #[.slice base l.length cap, .int .i64 x.2], .int .i64 0])) ((nx, .ext (dataO (partsL l) true)) :: H) (S.and ((rowsA base 9 (nodeRows l)).past cx.B.w0.heap.size)) (nx + 1)) : callK cx f args H S nx K := by
  rw [callK_def]
  refine ⟨hf, fun ρ w hw => (hc ρ w hw).mono ?_⟩
  rintro e w' (⟨hr, rfl, he⟩ | ⟨hr, l, base, cap, hx, hko, hcap, rfl, he, F, G, hF, hG, hFG, hn, hrow⟩)
  · exact ⟨.c (.tuple #[.agg #[.slice none 0 0, .int .i64 0], .int .i64 r]), ρ, H, S, nx, rfl, fun _ _ => rfl, Nat.le_refl _, SV.lt_c _, hw.ext he, h0 hr⟩
  · obtain ⟨R, φ, hwR⟩ := hw
    have hwR' := hwR.step (Step.of_ext he) (fun _ _ h => h) (fun _ _ _ _ h => h)
    have hG2 : AbsR cx.B (fun b => R b ∨ G b) φ ρ nx H (S.and ((rowsA base 9 (nodeRows l)).past cx.B.w0.heap.size)) w' := by
      refine ⟨hwR'.os, hwR'.tape, hwR'.output, hwR'.size, hwR'.pin, fun b hb => hb.elim (hwR'.ro b) (fun h => (hG b h).2), ⟨S.stable (fun _ h => .inl h) (fun _ _ => rfl) hwR'.asn, ?_⟩, hwR'.key, hwR'.ent, fun p hp b hb hb' => ?_, hwR'.sep⟩
      · exact (rowsA base 9 (nodeRows l)).stable (fun b hb => ⟨.inr hb, Nat.le_trans hwR.size (hG b hb).1⟩) (fun _ _ => rfl) hrow
      · rcases hb' with hb' | hb'
        · exact hwR'.apart p hp b hb hb'
        · have := Ent.size (hwR.ent p hp) hb
          have := (hG b hb').1
          omega
    refine ⟨.c (.tuple #[.agg #[.slice base l.length cap, .int .i64 x.2], .int .i64 0]), upd ρ nx ⟨none, 0⟩, _, _, nx + 1, rfl, fun i hi => upd_lt hi, Nat.le_succ _, SV.lt_c _, ?_, h1 hr l base cap hx hko⟩
    refine ⟨_, _, hG2.add (e := .ext (dataO (partsL l) true)) (l := ⟨none, 0⟩) (F := fun x => ∃ u ∈ partsL l, u.xs ≠ [] ∧ ∃ off, u.base = some ⟨x, off, none⟩) (fun y hy => by simp [Ent.hass] at hy) (parts_data hn) (fun y hy hR => ?_) (fun p hp y hy hy' => ?_)⟩
    · have hFy := parts_F hn hy
      rcases hR with hR | hR
      · have := hwR.ro y hR
        have := (hF y hFy).1
        omega
      · exact hFG y hFy hR
    · have hFy := parts_F hn hy'
      have := Ent.size (hwR.ent p hp) hy
      have := (hF y hFy).1
      omega
theorem spansH_pl {g h : GraphV} (hl : g.l.map NodeV.pl = h.l.map NodeV.pl) (ho : g.out = h.out) : spansH g = spansH h := by
  unfold spansH
  rw [check_pl hl ho, spansQ_pl hl]
theorem tidied_fit {B : Base} {ρ : Nat → SX.Loc} {nx i : Nat} {H : Heap} {S : Asn} {w : World} {l : List NodeV} {base : Option Addr} {cap : Nat} {out : Int} (hw : Abs B ρ nx H S w) (hi : (i, Ent.ext (dataO (partsL l) true)) ∈ H) (hr : ∀ R w', S.holds R w' → RowsI w' base 9 (nodeRows l)) (hko : KeptOk l) (hl : l.length ≤ 1000000) : (GraphV.mk base cap l out).fit w := by
  obtain ⟨R, φ, hwR⟩ := hw
  have hd : (dataO (partsL l) true).holds (ρ i) (φ i) w := hwR.ent _ hi
  refine ⟨hr R w hwR.asn, fun n hn => ?_, hl⟩
  have hs := (hko n hn).1
  have p := parts_in hn
  exact ⟨⟨data_rows hd p.1, hs.shape.fits, hs.shape.room, hs.shape.few⟩, ⟨data_rows hd p.2.1, hs.data.fits, hs.data.room, hs.data.few⟩, ⟨data_rows hd p.2.2, hs.bias.fits, hs.bias.room, hs.bias.few⟩, hs.kindFits, hs.aFits, hs.bFits, hs.loFits, hs.hiFits, hs.sizeFits⟩
end Go.Proofs.Ytdmkdogakbipbaa

/- NX -/
namespace Go.Proofs.Ytdmkdogakbipbaa
open Go.SX Go.RowKit
def scaleN (y : IntsV) : NodeV := ⟨7, 0, 0, nilI, 0, 0, 0, y, nilI⟩
def gT (nb : Option Addr) (nc : Nat) (u v y : IntsV) : GraphV := ⟨nb, nc, [constN u v, scaleN y], 1⟩
def gTP : GraphV := gT none 0 ⟨none, 0, [1]⟩ ⟨none, 0, [2]⟩ ⟨none, 0, [3]⟩
theorem gTP_spans : (spansH gTP).1 = 0 := by kernel_rfl
theorem gTP_tidy : tidyP (gTP.l.map NodeV.pl) (check gTP).2 1 = ([⟨2, 0, 0, [1], 0, 0, 0, [6], []⟩], 0) := by kernel_rfl
theorem gT_all {nb : Option Addr} {nc : Nat} {u v y : IntsV} (hu : u.xs = [1]) (hv : v.xs = [2]) (hy : y.xs = [3]) : (spansH (gT nb nc u v y)).1 = 0 ∧ tidyP ((gT nb nc u v y).l.map NodeV.pl) (check (gT nb nc u v y)).2 1 = ([⟨2, 0, 0, [1], 0, 0, 0, [6], []⟩], 0) := by
  have hl : (gT nb nc u v y).l.map NodeV.pl = gTP.l.map NodeV.pl := by
    show [NodeP.mk 2 0 0 u.xs 0 0 0 v.xs [], NodeP.mk 7 0 0 [] 0 0 0 y.xs []] = _
    rw [hu, hv, hy]; rfl
  rw [spansH_pl hl rfl, hl, check_pl hl rfl]
  exact ⟨gTP_spans, gTP_tidy⟩
theorem gT_ok {w : World} {nb : Option Addr} {nc : Nat} {u v y : IntsV} (hr : RowsI w nb 9 (nodeRows [constN u v, scaleN y])) (hu : u.ok w) (hv : v.ok w) (hy : y.ok w) (h2 : v.xs.length ≤ 5000) (h3 : y.xs.length ≤ 5000) : (gT nb nc u v y).ok w := by
  refine ⟨hr, fun n hn => ?_, fun n hn => ?_, (show 2 ≤ 1000000 by decide), i64_1⟩
  · rcases List.mem_cons.1 hn with rfl | hn
    · exact constN_ok hu hv
    · rw [List.mem_singleton.1 hn]
      exact ⟨nil_ok w, hy, nil_ok w, (show i64 7 from ⟨by decide, by decide⟩), i64_0, i64_0, i64_0, i64_0, i64_0⟩
  · rcases List.mem_cons.1 hn with rfl | hn
    · exact ⟨h2, Nat.zero_le _⟩
    · rw [List.mem_singleton.1 hn]; exact ⟨h3, Nat.zero_le _⟩
set_option maxRecDepth 20000 in
set_option maxHeartbeats 1000000 in
theorem fixed18_any (w : World) : Calls Try.prog 19 #[] w fun e w' => e = .returned (.bool true) ∧ Ext w w' := by
  refine calls_of tab tabOk Try.func19 rfl rfl rfl [] (fun _ => ⟨none, 0⟩) [] [] (baseA w) 0 rfl rfl (by show 0 ≤ _; decide) (abs_base w) ?_
  (repeat' ((conv => whnf) <;> first | (show Wp _ _ _ _ _ _ _; refine Wp.go tabOk rfl ?_) | (show @cmpK _ _ _; (first | refine cmpY ?_ | refine cmpN ?_ | (refine cmp_both ?_ ?_ <;> intro _))) | (show wrapK _ _ _; refine wrapA ?_) | (show leK _ _ _; refine leA ?_) | (show roomK _ _ _; refine roomA ?_) | (show ltK _ _ _; refine ltA ?_) | (show _ ∧ _; refine ⟨?_, ?_⟩) | (show keepK _ _ _ _ _; refine keepA ?_) | refine ap_old ?_))
  refine freeze_intsI (w0 := w) [1] (fun R w' h => h) rfl rfl (few_i64 rfl) (by decide) (fun u hu hus => ?_)
  (repeat' ((conv => whnf) <;> first | (show Wp _ _ _ _ _ _ _; refine Wp.go tabOk rfl ?_) | (show @cmpK _ _ _; (first | refine cmpY ?_ | refine cmpN ?_ | (refine cmp_both ?_ ?_ <;> intro _))) | (show wrapK _ _ _; refine wrapA ?_) | (show leK _ _ _; refine leA ?_) | (show roomK _ _ _; refine roomA ?_) | (show ltK _ _ _; refine ltA ?_) | (show _ ∧ _; refine ⟨?_, ?_⟩) | (show keepK _ _ _ _ _; refine keepA ?_) | refine ap_old ?_))
  refine freeze_intsI (w0 := w) [2] (fun R w' h => h.1) rfl rfl (few_i64 rfl) (by decide) (fun v hv hvs => ?_)
  (repeat' ((conv => whnf) <;> first | (show Wp _ _ _ _ _ _ _; refine Wp.go tabOk rfl ?_) | (show @cmpK _ _ _; (first | refine cmpY ?_ | refine cmpN ?_ | (refine cmp_both ?_ ?_ <;> intro _))) | (show wrapK _ _ _; refine wrapA ?_) | (show leK _ _ _; refine leA ?_) | (show roomK _ _ _; refine roomA ?_) | (show ltK _ _ _; refine ltA ?_) | (show _ ∧ _; refine ⟨?_, ?_⟩) | (show keepK _ _ _ _ _; refine keepA ?_) | refine ap_old ?_))
  refine freeze_intsI (w0 := w) [3] (fun R w' h => h.1.1) rfl rfl (few_i64 rfl) (by decide) (fun y hy hys => ?_)
  (repeat' ((conv => whnf) <;> first | (show Wp _ _ _ _ _ _ _; refine Wp.go tabOk rfl ?_) | (show @cmpK _ _ _; (first | refine cmpY ?_ | refine cmpN ?_ | (refine cmp_both ?_ ?_ <;> intro _))) | (show wrapK _ _ _; refine wrapA ?_) | (show leK _ _ _; refine leA ?_) | (show roomK _ _ _; refine roomA ?_) | (show ltK _ _ _; refine ltA ?_) | (show _ ∧ _; refine ⟨?_, ?_⟩) | (show keepK _ _ _ _ _; refine keepA ?_) | refine ap_old ?_))
  refine freeze_nodesI (w0 := w) [constN u v, scaleN y] (fun R w' h => h.1.1.1) rfl rfl (fun nb nc => ?_)
  obtain ⟨hS, hR⟩ := gT_all (nb := nb) (nc := nc) hu hv hy
  (repeat' ((conv => whnf) <;> first | (show Wp _ _ _ _ _ _ _; refine Wp.go tabOk rfl ?_) | (show @cmpK _ _ _; (first | refine cmpY ?_ | refine cmpN ?_ | (refine cmp_both ?_ ?_ <;> intro _))) | (show wrapK _ _ _; refine wrapA ?_) | (show leK _ _ _; refine leA ?_) | (show roomK _ _ _; refine roomA ?_) | (show ltK _ _ _; refine ltA ?_) | (show _ ∧ _; refine ⟨?_, ?_⟩) | (show keepK _ _ _ _ _; refine keepA ?_) | refine ap_old ?_))
  refine call_tidyW 0 _ Try.call22 (fun ρ w' hw => by have := tidy_any w' (gT nb nc u v y) (holds_of_abs hw fun R h => gT_ok (rowsA_in h.2) (intsA_ok hus h.1.1.1.2) (intsA_ok hvs h.1.1.2) (intsA_ok hys h.1.2) (by rw [hv]; decide) (by rw [hy]; decide)); rw [hS] at this; erw [hR] at this; exact this) (fun h => absurd rfl h) (fun _ l hb hc hl hko => ?_)
  obtain ⟨z, rfl⟩ : ∃ z, l = [z] := by
    have h1 : l.length = 1 := by simpa using congrArg List.length hl
    match l, h1 with
    | [z], _ => exact ⟨z, rfl⟩
  have hz : z.pl = ⟨2, 0, 0, [1], 0, 0, 0, [6], []⟩ := by simpa using hl
  have hzk : z.kind = 2 := congrArg NodeP.kind hz
  have hzd : z.data.xs = [6] := congrArg NodeP.data hz
  refine Wp.know (p := ∃ a, hb = some a) (fun ρ w' hw => holds_of_abs hw fun R h => base_some (j := 0) (rowsA_in h.2) (show 0 < 1 by decide)) ?_
  rintro ⟨ha, rfl⟩
  (repeat' ((conv => whnf) <;> first | (show @cmpK _ _ _; (first | refine cmp_yes rfl ?_ | refine cmp_yes hzk ?_)) | (show idxK _ _ _ _ _; refine idx_of ha 0 rfl rfl (show 0 < 1 by decide) ?_) | (show roK _ _ _; (first | refine ro_row (j := 0) (f := 0) (fun R w' h => rowsA_in h.2) z.cells (.int .i64 z.kind) rfl rfl ?_ | refine ro_row0 (j := 0) (fun R w' h => rowsA_in h.2) z.cells (.int .i64 z.kind) rfl rfl ?_ | refine ro_row (j := 0) (f := 7) (fun R w' h => rowsA_in h.2) z.cells z.data.val rfl rfl ?_)) | (show Wp _ _ _ _ _ _ _; refine Wp.go tabOk rfl ?_) | (show @cmpK _ _ _; (first | refine cmpY ?_ | refine cmpN ?_ | (refine cmp_both ?_ ?_ <;> intro _))) | (show wrapK _ _ _; refine wrapA ?_) | (show leK _ _ _; refine leA ?_) | (show roomK _ _ _; refine roomA ?_) | (show ltK _ _ _; refine ltA ?_) | (show _ ∧ _; refine ⟨?_, ?_⟩) | (show keepK _ _ _ _ _; refine keepA ?_) | refine ap_old ?_))
  refine freeze_intsI (w0 := w) [6] (fun R w' h => h.1.1.1.1.1) rfl rfl (few_i64 rfl) (by decide) (fun q hq hqs => ?_)
  (repeat' ((conv => whnf) <;> first | (show @cmpK _ _ _; (first | refine cmp_yes rfl ?_ | refine cmp_yes hzk ?_)) | (show callK _ 26 _ _ _ _ _; (refine call_pure (f := 26) Try.call26 (.bool true) (fun ρ w' hw => by have := same_any w' z.data q ((tidied_fit (cap := 0) (out := 0) hw (by repeat (first | exact List.mem_cons_self | apply List.mem_cons_of_mem)) (fun R w' h => rowsA_in h.1.2) hko (show 1 ≤ 1000000 by decide)).each z List.mem_cons_self).data (holds_of_abs hw fun R h => intsA_ok hqs h.2); rw [decide_eq_true (hzd.trans hq.symm)] at this; exact this) ?_)) | (show Wp _ _ _ _ _ _ _; refine Wp.go tabOk rfl ?_) | (show @cmpK _ _ _; (first | refine cmpY ?_ | refine cmpN ?_ | (refine cmp_both ?_ ?_ <;> intro _))) | (show wrapK _ _ _; refine wrapA ?_) | (show leK _ _ _; refine leA ?_) | (show roomK _ _ _; refine roomA ?_) | (show ltK _ _ _; refine ltA ?_) | (show _ ∧ _; refine ⟨?_, ?_⟩) | (show keepK _ _ _ _ _; refine keepA ?_) | refine own_keep ?_ | refine ap_old ?_))
  conv => whnf
  exact ends_bool (fun R w' h => h.1.1.1.1.1.1) rfl rfl
end Go.Proofs.Ytdmkdogakbipbaa

/- PR -/
namespace Go.Proofs.Ytdmkdogakbipbaa
open Go.SX Go.RowKit Go.ChangeShapes Go.WideShapes Go.ChangeAt
structure SmallsV where
  base : Option Addr
  cap : Nat
  xs : List Int
def SmallsV.val (v : SmallsV) : Value := .slice v.base v.xs.length v.cap
def smallsR (l : List Int) : List (List Value) := l.map fun x => [Value.int .i8 x]
theorem smallsR_length (l : List Int) : (smallsR l).length = l.length := by simp [smallsR]
theorem smallsR_get {l : List Int} {k : Nat} (h : k < l.length) : (smallsR l)[k]? = some [.int .i8 l[k]] := by simp [smallsR, h]
structure SmallsV.raw (w : World) (v : SmallsV) : Prop where
  rows : RowsI w v.base 1 (smallsR v.xs)
  fits : ∀ x ∈ v.xs, -128 ≤ x ∧ x ≤ 127
theorem wf_i8' {x : Int} (h : (Lit.int .i8 x).wf = true) : -128 ≤ x ∧ x ≤ 127 := by
  simp [Lit.wf, IntKind.min, IntKind.max, IntKind.signed, IntKind.bits] at h
  omega
theorem opens_smalls (w : World) : Opens Try.prog w 50 fun cs => ∃ t : SmallsV, cs = [t.val] ∧ t.raw w := by
  refine Opens.mono (opens_slice (k := 1) Try.underlying50 (by kernel_rfl) (opens_int Try.underlying51)) ?_
  rintro cs ⟨base, cap, xs, rfl, h1, h2, h3, h4, h5⟩
  obtain ⟨l, rfl, hl⟩ := list_map_of (f := fun (i : Int) => [Value.int .i8 i]) (p := fun i => -128 ≤ i ∧ i ≤ 127) fun r hr => by
    obtain ⟨_, i, hi, rfl⟩ := h2 r hr
    exact ⟨i, wf_i8' hi, rfl⟩
  exact ⟨⟨base, cap, l⟩, by simp [SmallsV.val], h1, hl⟩
theorem freezeQ {cx : Cx} {c : Code} {env : Env} {H : Heap} {S : Asn} {nx : Nat} {K : Exit → Env → Heap → Asn → Nat → Prop} (i N : Nat) {xs ys : List (List Value)} {k : Nat} {T : TypeId} (he : (i, Ent.rows xs k T) ∈ H) (hxy : xs = ys) (hN : ∀ R w, S.holds R w → ∀ b, b < N → R b)
    (h : ∀ l : SX.Loc, ys.length ≤ l.cap → Wp cx c (env.fz i l) (Heap.fz i l (delH i H)) (S.and ((rowsA l.base k ys).past N)) nx K) : Wp cx c env H S nx K := by
  subst hxy
  exact Wp.freezeN i N he hN h
theorem nodes_cat {l m : List NodeV} {ys : List (List Value)} (h : ys = nodeRows m) : List.take l.length (nodeRows l) ++ ys = nodeRows (l ++ m) := by
  subst h
  rw [List.take_of_length_le (by rw [nodeRows_length]; exact Nat.le_refl _)]
  exact List.map_append.symm
theorem peek_exact {B : Base} {ρ : Nat → SX.Loc} {nx : Nat} {H : Heap} {S : Asn} {w : World} {g : Nat} {us : List IntsV} (hw : Abs B ρ nx H S w) (hg : (g, Ent.ext (dataO us true)) ∈ H) {u : IntsV} (hu : u ∈ us) {j b off : Nat} (hj : j < u.xs.length) (hb : u.base = some ⟨b, off, none⟩) :
    ∃ v, v = Value.int .i64 (u.xs.getD j 0) ∧ Abs B ρ nx [] (cellA ⟨b, off + j, none⟩ v) w := by
  obtain ⟨R, φ, hwR⟩ := hw
  have hent : (dataO us true).holds (ρ g) (φ g) w := hwR.ent _ hg
  rcases hent.2 u hu with h0 | ⟨b', off', c, g1, g2, g3, g4, g5⟩
  · rw [h0] at hj; simp at hj
  rw [hb] at g1
  simp only [Option.some.injEq, Addr.mk.injEq, and_true] at g1
  obtain ⟨rfl, rfl⟩ := g1
  obtain ⟨v, hv, hx⟩ := g5 j hj
  have hx := hx rfl
  have e : u.xs.getD j 0 = v := by rw [List.getD_eq_getElem?_getD, hx]; rfl
  rw [e]
  refine ⟨.int .i64 v, rfl, fun x => x = b, fun _ _ => False, hwR.os, hwR.tape, hwR.output, hwR.size, hwR.pin, fun x hx => ?_, ⟨rfl, ?_⟩, ?_, ?_, ?_, ?_⟩
  · subst hx; exact lt_size_of_some g3
  · simp [World.cell?, g3, hv]
  · intro p hp; simp at hp
  · intro p hp; simp at hp
  · intro p hp; simp at hp
  · exact List.Pairwise.nil
theorem rL_get {d : List Int} {j : Nat} (hj : j < d.length) {x : Int} (hx : d.getD j 0 = x) : (rL d).getD j 0 = x * x - 2 * x + 3 + x := by
  have g : ∀ f : Nat → Int, ((List.range d.length).map f).getD j 0 = f j := fun f => by
    rw [List.getD_eq_getElem?_getD, List.getElem?_map, List.getElem?_range hj]; rfl
  unfold rL qL
  rw [g, g, hx, Int.one_mul]
  omega
theorem data_at {B : Base} {ρ : Nat → SX.Loc} {nx : Nat} {H : Heap} {S : Asn} {w : World} {g : Nat} {us : List IntsV} {ex : Bool} (hw : Abs B ρ nx H S w) (hg : (g, Ent.ext (dataO us ex)) ∈ H) {u : IntsV} (hu : u ∈ us) {j : Nat} (hj : j < u.xs.length) : ∃ b off, u.base = some ⟨b, off, none⟩ := by
  obtain ⟨R, φ, hwR⟩ := hw
  have hent : (dataO us ex).holds (ρ g) (φ g) w := hwR.ent _ hg
  rcases hent.2 u hu with h0 | ⟨b', off', c, g1, _⟩
  · rw [h0] at hj; simp at hj
  · exact ⟨b', off', g1⟩
theorem wp_then {cx : Cx} {a b : Code} {env : Env} {H : Heap} {S : Asn} {nx : Nat} {K : Exit → Env → Heap → Asn → Nat → Prop} (h : Wp cx a env H S nx (fun e env' H' S' nx' => match e with
    | .normal => Wp cx b env' H' S' nx' K
    | e => K e env' H' S' nx')) : Wp cx (.seq a b) env H S nx K := by
  rw [Wp_def] at h ⊢
  intro ρ a w hs hw
  refine wp_seq (wp_mono (h ρ a w hs hw) ?_)
  rintro e a' w' ⟨ρ', env', H', S', nx', h2, h3, h4, h5, h6⟩
  cases e with
  | normal =>
    simp only [Exit.then]
    dsimp only at h6
    refine wp_mono (h6.out ρ' a' w' h4 h5) ?_
    rintro e2 a2 w2 ⟨ρ2, env2, H2, S2, nx2, g2, g3, g4, g5, g6⟩
    exact ⟨ρ2, env2, H2, S2, nx2, fun i hi => (g2 i (Nat.lt_of_lt_of_le hi h3)).trans (h2 i hi), Nat.le_trans h3 g3, g4, g5, g6⟩
  | _ => exact ⟨ρ', env', H', S', nx', h2, h3, h4, h5, h6⟩
theorem getI_take {xs : List Int} {j : Nat} (h : j < xs.length) : xs.take (j + 1) = xs.take j ++ [xs[j]] := by
  rw [List.take_add_one, List.getElem?_eq_getElem h]; rfl
set_option maxRecDepth 20000 in
set_option maxHeartbeats 4000000 in
theorem lawTidyConstant_any (w : World) (t : BytesV) (ht : t.raw w) (v : SmallsV) (hv : v.raw w) : Calls Try.prog 8 #[t.val, v.val] w fun e w' => e = .returned (.bool true) ∧ Ext w w' := by
  by_cases h300 : t.bs.length ≤ 300 ∧ v.xs.length ≤ 9 ∧ 1 ≤ v.xs.length
  · obtain ⟨h300, h9, h1⟩ := h300
    refine calls_of tab tabOk Try.func8 rfl rfl rfl [] (fun _ => ⟨none, 0⟩) [.c t.val, .c v.val] [] (baseA w) 0 rfl rfl (by show 2 ≤ _; decide) (abs_base w) ?_
    (repeat' ((conv => whnf) <;> first | (show callK _ 19 _ _ _ _ _; refine call_pure (f := 19) Try.call19 (.bool true) (fun ρ w' hw => fixed18_any w') ?_) | (show Wp _ _ _ _ _ _ _; refine Wp.go tabOk rfl ?_) | (show @cmpK _ _ _; (first | refine cmpY ?_ | refine cmpN ?_ | (refine cmp_both ?_ ?_ <;> intro _))) | (show wrapK _ _ _; refine wrapA ?_) | (show leK _ _ _; refine leA ?_) | (show roomK _ _ _; refine roomA ?_) | (show ltK _ _ _; refine ltA ?_) | (show _ ∧ _; refine ⟨?_, ?_⟩) | (show keepK _ _ _ _ _; refine keepA ?_) | refine own_keep ?_ | refine ap_old ?_))
    refine call_graph (f := 16) t 0 (by repeat (first | exact List.mem_cons_self | apply List.mem_cons_of_mem)) Try.call16 (by omega) ht.fits (Nat.zero_le _) (fun R w' h => base_bytes ht h) (fun w' b htk => make_any w' b t 0 htk) (fun l out k' hml h8 ho0 ho1 => ?_)
    obtain ⟨sh, hsh, hck⟩ := made_check hml (by omega)
    (repeat' ((conv => whnf) <;> first | (show Wp _ _ _ _ _ _ _; refine Wp.go tabOk rfl ?_) | (show @cmpK _ _ _; (first | refine cmpY ?_ | refine cmpN ?_ | (refine cmp_both ?_ ?_ <;> intro _))) | (show wrapK _ _ _; refine wrapA ?_) | (show leK _ _ _; refine leA ?_) | (show roomK _ _ _; refine roomA ?_) | (show ltK _ _ _; refine ltA ?_) | (show _ ∧ _; refine ⟨?_, ?_⟩) | (show keepK _ _ _ _ _; refine keepA ?_) | refine own_keep ?_ | refine ap_old ?_))
    refine Wp.loop (σ := Nat) 4 (fun j => [(5, .lp 2 0 0 0), (6, .c (.int .i64 l.length)), (7, .os 3 j), (38, .c v.val), (39, .c (.int .i64 v.xs.length)), (40, .c (.int .i64 j))])
      (fun j => [(3, .rows (ints (v.xs.take j)) 1 3), (2, .box [.os 1 l.length, .c (.int .i64 out)] 26), (1, .rows (nodeRows l) 9 38)])
      (fun _ => (baseA w).and ((nodesD l).past w.heap.size)) (fun j => j ≤ v.xs.length) (fun j => v.xs.length - j) 0 [(3, none)] (by decide) (fun s => ⟨rfl, rfl⟩)
      (Nat.zero_le _) ⟨rfl, ⟨rfl, rfl, rfl, rfl, rfl, rfl, trivial⟩, ⟨rfl, (by repeat (first | exact List.mem_cons_self | apply List.mem_cons_of_mem)), (by repeat (first | exact List.mem_cons_self | apply List.mem_cons_of_mem)), trivial⟩, fun R w' h => h⟩ ?_
    rintro j hj
    by_cases hlt1 : j < v.xs.length
    · obtain ⟨a, ha⟩ : ∃ a, v.base = some a := base_some (j := j) hv.rows (by rw [smallsR_length]; exact hlt1)
      have hrow := smallsR_get hlt1
      have hfit := hv.fits _ (List.getElem_mem hlt1)
      have htk := getI_take hlt1
      have htl : (v.xs.take j).length = j := by rw [List.length_take]; omega
      generalize v.xs[j] = x at *
      (repeat' ((conv => whnf) <;> first | (show idxK _ _ _ _ _; refine idx_of a j ha rfl hlt1 ?_) | (show roK _ _ _; (refine ro_row0 (fun R w' h => by rw [← ha]; exact rows_base h.1 hv.rows) _ _ hrow rfl ?_)) | (show wrapK _ _ _; refine wrap_i64 (by omega) (by omega) ?_) | (show leK _ _ _; (first | refine le_of (Nat.zero_le _) ?_ | refine le_of (by rw [ints_length, htl]; exact Nat.le_refl _) ?_)) | (show roomK _ _ _; (refine room_of (by show (j + 1) * 8 ≤ 140737488355328; omega) ?_)) | (show ownK _ ((_, .rows (List.take j _ ++ _) _ _) :: _) _ _ _; refine own_eq (ys := ints (v.xs.take (j + 1))) (m := j + 1) ?_ (by rw [htk, List.take_of_length_le (by rw [ints_length, htl]; exact Nat.le_refl _)]; simp [ints]; rfl) rfl) | (show Wp _ _ _ _ _ _ _; refine Wp.go tabOk rfl ?_) | (show @cmpK _ _ _; (first | refine cmpY ?_ | refine cmpN ?_ | (refine cmp_both ?_ ?_ <;> intro _))) | (show wrapK _ _ _; refine wrapA ?_) | (show leK _ _ _; refine leA ?_) | (show roomK _ _ _; refine roomA ?_) | (show ltK _ _ _; refine ltA ?_) | (show _ ∧ _; refine ⟨?_, ?_⟩) | (show keepK _ _ _ _ _; refine keepA ?_) | refine own_keep ?_ | refine ap_old ?_))
      all_goals (conv => whnf)
      all_goals exact ⟨j + 1, [(3, some 5)], hlt1, by omega, rfl, ⟨rfl, rfl, rfl, rfl, rfl, rfl, trivial⟩, ⟨(by repeat (first | exact List.mem_cons_self | apply List.mem_cons_of_mem)), (by repeat (first | exact List.mem_cons_self | apply List.mem_cons_of_mem)), (by repeat (first | exact List.mem_cons_self | apply List.mem_cons_of_mem)), trivial⟩, fun R w' h => h⟩
    · obtain rfl : j = v.xs.length := by omega
      (repeat' ((conv => whnf) <;> first | (show @cmpK _ _ _; (first | refine cmpY ?_ | refine cmpN ?_ | (refine cmp_both ?_ ?_ <;> intro _))) | (show wrapK _ _ _; refine wrapA ?_) | (show leK _ _ _; refine leA ?_) | (show roomK _ _ _; refine roomA ?_) | (show ltK _ _ _; refine ltA ?_) | (show _ ∧ _; refine ⟨?_, ?_⟩) | (show keepK _ _ _ _ _; refine keepA ?_) | refine own_keep ?_ | refine ap_old ?_))
      all_goals (conv => whnf)
      refine freezeQ 3 w.heap.size (k := 1) (ys := ints v.xs) (T := 3) (by repeat (first | exact List.mem_cons_self | apply List.mem_cons_of_mem)) (by rw [List.take_length]) (fun R w' h b hb => (h.1 b hb).1) (fun fd hfd => ?_)
      rw [ints_length] at hfd
      refine Wp.go tabOk rfl ?_
      (repeat' ((conv => whnf) <;> first | (show @cmpK _ _ _; (first | refine cmpY ?_ | refine cmpN ?_ | (refine cmp_both ?_ ?_ <;> intro _))) | (show wrapK _ _ _; refine wrapA ?_) | (show leK _ _ _; refine leA ?_) | (show roomK _ _ _; refine roomA ?_) | (show ltK _ _ _; refine ltA ?_) | (show _ ∧ _; refine ⟨?_, ?_⟩) | (show keepK _ _ _ _ _; refine keepA ?_) | refine own_keep ?_ | refine ap_old ?_))
      all_goals (conv => whnf)
      refine Wp.go tabOk rfl ?_
      (repeat' ((conv => whnf) <;> first | (show @cmpK _ _ _; (first | refine cmpY ?_ | refine cmpN ?_ | (refine cmp_both ?_ ?_ <;> intro _))) | (show wrapK _ _ _; refine wrapA ?_) | (show leK _ _ _; refine leA ?_) | (show roomK _ _ _; refine roomA ?_) | (show ltK _ _ _; refine ltA ?_) | (show _ ∧ _; refine ⟨?_, ?_⟩) | (show keepK _ _ _ _ _; refine keepA ?_) | refine own_keep ?_ | refine ap_old ?_))
      all_goals (conv => whnf)
      refine Wp.go tabOk rfl ?_
      (repeat' ((conv => whnf) <;> first | (show ownK _ ((_, .rows (List.take l.length _ ++ _) _ _) :: _) _ _ _; refine own_eq (ys := nodeRows (l ++ [cV u ⟨fd.base, fd.cap, v.xs⟩, pV l.length e, aV l.length])) (m := (l ++ [cV u ⟨fd.base, fd.cap, v.xs⟩, pV l.length e, aV l.length]).length) ?_ (nodes_cat rfl) (by show l.length + 3 = _; rw [List.length_append]; rfl)) | (show ownK _ _ _ _ _; (first | refine freeze_intsI (w0 := w) [(v.xs.length : Int)] (fun R w' h => by first | exact h.1.1 | exact h.1.1.1 | exact h.1.1.1.1) rfl rfl (by intro x hx; simp at hx; subst hx; unfold i64; omega) (by simp) (fun u hu hus => ?_) | refine freeze_intsI (w0 := w) [3, -2, 1] (fun R w' h => by first | exact h.1.1 | exact h.1.1.1 | exact h.1.1.1.1) rfl rfl (few_i64 rfl) (by decide) (fun e he hes => ?_) | refine own_keep ?_)) | (show wrapK _ _ _; refine wrap_i64 (by omega) (by omega) ?_) | (show leK _ _ _; (refine le_of (by rw [nodeRows_length]; exact Nat.le_refl _) ?_)) | (show roomK _ _ _; (refine room_of (by show (l.length + 3) * 120 ≤ 140737488355328; omega) ?_)) | (show @cmpK _ _ _; (first | refine cmpY ?_ | refine cmpN ?_ | (refine cmp_both ?_ ?_ <;> intro _))) | (show wrapK _ _ _; refine wrapA ?_) | (show leK _ _ _; refine leA ?_) | (show roomK _ _ _; refine roomA ?_) | (show ltK _ _ _; refine ltA ?_) | (show _ ∧ _; refine ⟨?_, ?_⟩) | (show keepK _ _ _ _ _; refine keepA ?_) | refine own_keep ?_ | refine ap_old ?_))
      all_goals (conv => whnf)
      have hb20 : ∀ x ∈ v.xs, bd20 x := fun x hx => by have := hv.fits x hx; unfold bd20; omega
      have hcg := fun (g : GraphV) => const_graph (g := g) hsh (by omega) (u := u) (d := ⟨fd.base, fd.cap, v.xs⟩) (e := e) h1 h9 hu he hb20
      obtain ⟨L, hL⟩ : ∃ L, L = l ++ [cV u ⟨fd.base, fd.cap, v.xs⟩, pV l.length e, aV l.length] := ⟨_, rfl⟩
      have hLl : L.length = l.length + 3 := by rw [hL]; simp
      rw [← hL]
      refine Wp.freezeN 7 w.heap.size (k := 9) (xs := nodeRows L) (T := 38) (by repeat (first | exact List.mem_cons_self | apply List.mem_cons_of_mem)) (fun R w' h b hb => (h.1.1.1.1 b hb).1) (fun fl hfl => ?_)
      have hgok : ∀ {R : Nat → Prop} {w' : World}, ((((((baseA w).and ((nodesD l).past w.heap.size)).and ((rowsA fd.base 1 (ints v.xs)).past w.heap.size)).and ((intsA u).past w.heap.size)).and ((intsA e).past w.heap.size)).and ((rowsA fl.base 9 (nodeRows L)).past w.heap.size)).holds R w' → (⟨fl.base, fl.cap, L, (l.length : Int) + 2⟩ : GraphV).ok w' := fun {R w'} h => by
        have hd : (IntsV.mk fd.base fd.cap v.xs).ok w' := ⟨rowsA_in h.1.1.1.2, fun x hx => by have := hv.fits x hx; omega, hfd, by show v.xs.length ≤ _; omega⟩
        have hu2 : u.ok w' := intsA_ok hus ((intsA u).mono h.1.1.2 (fun b hb => hb.1))
        have he2 : e.ok w' := intsA_ok hes ((intsA e).mono h.1.2 (fun b hb => hb.1))
        have hn2 : nilI.ok w' := intsA_ok nilI_sane (nilI_holds (fun _ => True) w')
        refine ⟨rowsA_in h.2, fun m hm => ?_, fun m hm => ?_, by show L.length ≤ _; omega, (show i64 ((l.length : Int) + 2) by unfold i64; omega)⟩
        · rw [hL] at hm
          rcases List.mem_append.1 hm with hm | hm
          · exact made_ok (hml.each m hm) ((nodesD l).mono h.1.1.1.1.2 (fun b hb => hb.1) m hm)
          · simp only [List.mem_cons, List.not_mem_nil, or_false] at hm
            rcases hm with rfl | rfl | rfl
            · exact ⟨hu2, hd, hn2, (show i64 2 by unfold i64; omega), z0, z0, z0, z0, z0⟩
            · exact ⟨hn2, he2, hn2, (show i64 8 by unfold i64; omega), (show i64 (l.length : Int) by unfold i64; omega), z0, z0, z0, z0⟩
            · exact ⟨hn2, hn2, hn2, (show i64 6 by unfold i64; omega), (show i64 ((l.length : Int) + 1) by unfold i64; omega), (show i64 (l.length : Int) by unfold i64; omega), z0, z0, z0⟩
        · rw [hL] at hm
          rcases List.mem_append.1 hm with hm | hm
          · exact ⟨by have := (hml.each m hm).dataFew; omega, by have := (hml.each m hm).biasFew; omega⟩
          · simp only [List.mem_cons, List.not_mem_nil, or_false] at hm
            rcases hm with rfl | rfl | rfl
            · exact ⟨by show v.xs.length ≤ _; omega, by show nilI.xs.length ≤ _; simp [nilI]⟩
            · exact ⟨by show e.xs.length ≤ _; rw [he]; simp, by show nilI.xs.length ≤ _; simp [nilI]⟩
            · exact ⟨by show nilI.xs.length ≤ _; simp [nilI], by show nilI.xs.length ≤ _; simp [nilI]⟩
      have htd := fun w' (h : (⟨fl.base, fl.cap, L, (l.length : Int) + 2⟩ : GraphV).ok w') => tidy_any w' ⟨fl.base, fl.cap, L, (l.length : Int) + 2⟩ h
      obtain ⟨h05, hcon⟩ := hcg ⟨fl.base, fl.cap, L, (l.length : Int) + 2⟩ hL rfl
      have hfew := tidied_few (g := ⟨fl.base, fl.cap, L, (l.length : Int) + 2⟩)
      generalize tidyP ((GraphV.mk fl.base fl.cap L ((l.length : Int) + 2)).l.map NodeV.pl) (check ⟨fl.base, fl.cap, L, (l.length : Int) + 2⟩).2 (GraphV.mk fl.base fl.cap L ((l.length : Int) + 2)).out.toNat = X at *
      generalize (spansH ⟨fl.base, fl.cap, L, (l.length : Int) + 2⟩).1 = er at *
      (repeat' ((conv => whnf) <;> first | (show wrapK _ _ _; refine wrap_i64 (by omega) (by omega) ?_) | (show Wp _ _ _ _ _ _ _; refine Wp.go tabOk rfl ?_) | (show @cmpK _ _ _; (first | refine cmpY ?_ | refine cmpN ?_ | (refine cmp_both ?_ ?_ <;> intro _))) | (show wrapK _ _ _; refine wrapA ?_) | (show leK _ _ _; refine leA ?_) | (show roomK _ _ _; refine roomA ?_) | (show ltK _ _ _; refine ltA ?_) | (show _ ∧ _; refine ⟨?_, ?_⟩) | (show keepK _ _ _ _ _; refine keepA ?_) | refine own_keep ?_ | refine ap_old ?_))
      rcases h05 with rfl | rfl
      · obtain ⟨hf1, hf2⟩ := hfew rfl
        have hf1 : X.1.length ≤ L.length := hf1
        obtain ⟨hc1, hc2, hc3⟩ := hcon rfl
        refine call_tidyW 0 X Try.call22 (fun ρ w' hw => htd w' (holds_of_abs hw fun R h => hgok h)) (fun h => absurd rfl h) (fun _ lt base cap hlt hko => ?_)
        have hltl : lt.length = X.1.length := by rw [← hlt, List.length_map]
        (repeat' ((conv => whnf) <;> first | (show @cmpK _ _ _; refine cmp_no (fun h => h rfl) ?_) | (show Wp _ _ _ _ _ _ _; refine Wp.go tabOk rfl ?_) | (show @cmpK _ _ _; (first | refine cmpY ?_ | refine cmpN ?_ | (refine cmp_both ?_ ?_ <;> intro _))) | (show wrapK _ _ _; refine wrapA ?_) | (show leK _ _ _; refine leA ?_) | (show roomK _ _ _; refine roomA ?_) | (show ltK _ _ _; refine ltA ?_) | (show _ ∧ _; refine ⟨?_, ?_⟩) | (show keepK _ _ _ _ _; refine keepA ?_) | refine own_keep ?_ | refine ap_old ?_))
        have hltp : ∀ i (h : i < lt.length), lt[i].pl = X.1.getD i nilP := fun i h => by
          rw [← hlt, List.getD_eq_getElem?_getD, List.getElem?_map, List.getElem?_eq_getElem h]; rfl
        refine Wp.loop (σ := Nat) 10 (fun i => [(7, .c (.slice fd.base v.xs.length fd.cap)), (10, .lp 9 0 0 0), (80, .c (.slice base lt.length cap)), (81, .c (.int .i64 lt.length)), (82, .c (.int .i64 i))]) (fun _ => [(9, .box [.c (.slice base lt.length cap), .c (.int .i64 X.2)] 26), (8, .ext (dataO (partsL lt) true))])
          (fun _ => ((baseA w).and ((rowsA fd.base 1 (ints v.xs)).past w.heap.size)).and ((rowsA base 9 (nodeRows lt)).past w.heap.size)) (fun i => i ≤ lt.length) (fun i => lt.length - i) 0 [] (by decide) (fun s => ⟨rfl, rfl⟩)
          (Nat.zero_le _) ⟨rfl, ⟨rfl, rfl, rfl, rfl, rfl, trivial⟩, ⟨(by repeat (first | exact List.mem_cons_self | apply List.mem_cons_of_mem)), (by repeat (first | exact List.mem_cons_self | apply List.mem_cons_of_mem)), trivial⟩, fun R w' h => ⟨⟨h.1.1.1.1.1.1, h.1.1.1.1.2⟩, h.2⟩⟩ ?_
        rintro i hi
        by_cases hil : i < lt.length
        · refine Wp.know (p := ∃ a, base = some a) (fun ρ w' hw => holds_of_abs hw fun R h => base_some (j := i) (rowsA_in h.2) (by rw [nodeRows_length]; exact hil)) ?_
          rintro ⟨la, hla⟩
          have hrow := nodeRows_get hil
          have hk := hc3 i (by omega)
          rw [← hltp i hil] at hk
          generalize lt[i] = n at *
          have kk : n.pl.kind = n.kind := rfl
          rw [kk] at hk
          by_cases hk1 : n.kind = 1
          · have hne : ¬ (i : Int) = (X.2 : Int) := fun h => absurd hk1 (hk.2 (by omega))
            (repeat' ((conv => whnf) <;> first | (show idxK _ _ _ _ _; refine idx_of la i hla rfl hil ?_) | (show roAggK _ _ _ _; (refine roAgg_row (fun R w' h => by rw [← hla]; exact rowsA_in h.2) _ hrow rfl ?_)) | (show @cmpK _ _ _; (first | refine cmp_no (fun h => h hk1) ?_ | refine cmp_no hne ?_)) | (show Wp _ _ _ _ _ _ _; refine Wp.go tabOk rfl ?_) | (show @cmpK _ _ _; (first | refine cmpY ?_ | refine cmpN ?_ | (refine cmp_both ?_ ?_ <;> intro _))) | (show wrapK _ _ _; refine wrapA ?_) | (show leK _ _ _; refine leA ?_) | (show roomK _ _ _; refine roomA ?_) | (show ltK _ _ _; refine ltA ?_) | (show _ ∧ _; refine ⟨?_, ?_⟩) | (show keepK _ _ _ _ _; refine keepA ?_) | refine own_keep ?_ | refine ap_old ?_))
            all_goals (conv => whnf)
            all_goals exact ⟨i + 1, [], hil, by omega, rfl, ⟨rfl, rfl, rfl, rfl, rfl, trivial⟩, ⟨(by repeat (first | exact List.mem_cons_self | apply List.mem_cons_of_mem)), (by repeat (first | exact List.mem_cons_self | apply List.mem_cons_of_mem)), trivial⟩, fun R w' h => h⟩
          · have heq : (i : Int) = (X.2 : Int) := by have := hk.1 hk1; omega
            (repeat' ((conv => whnf) <;> first | (show idxK _ _ _ _ _; refine idx_of la i hla rfl hil ?_) | (show roAggK _ _ _ _; (refine roAgg_row (fun R w' h => by rw [← hla]; exact rowsA_in h.2) _ hrow rfl ?_)) | (show @cmpK _ _ _; (first | refine cmp_yes hk1 ?_ | refine cmp_yes heq ?_)) | (show Wp _ _ _ _ _ _ _; refine Wp.go tabOk rfl ?_) | (show @cmpK _ _ _; (first | refine cmpY ?_ | refine cmpN ?_ | (refine cmp_both ?_ ?_ <;> intro _))) | (show wrapK _ _ _; refine wrapA ?_) | (show leK _ _ _; refine leA ?_) | (show roomK _ _ _; refine roomA ?_) | (show ltK _ _ _; refine ltA ?_) | (show _ ∧ _; refine ⟨?_, ?_⟩) | (show keepK _ _ _ _ _; refine keepA ?_) | refine own_keep ?_ | refine ap_old ?_))
            all_goals (conv => whnf)
            all_goals exact ⟨i + 1, [], hil, by omega, rfl, ⟨rfl, rfl, rfl, rfl, rfl, trivial⟩, ⟨(by repeat (first | exact List.mem_cons_self | apply List.mem_cons_of_mem)), (by repeat (first | exact List.mem_cons_self | apply List.mem_cons_of_mem)), trivial⟩, fun R w' h => h⟩
        have hX2 : X.2 < lt.length := by omega
        refine Wp.know (p := ∃ a, base = some a) (fun ρ w' hw => holds_of_abs hw fun R h => base_some (j := X.2) (rowsA_in h.2) (by rw [nodeRows_length]; exact hX2)) ?_
        rintro ⟨la, hla⟩
        have hrow := nodeRows_get hX2
        have hm := hltp X.2 hX2
        rw [hc2] at hm
        have hmm := List.getElem_mem hX2
        generalize lt[X.2] = m at *
        have hmk : m.kind = 2 := congrArg NodeP.kind hm
        have hmd : m.data.xs = rL v.xs := congrArg NodeP.data hm
        have hmdl : m.data.xs.length = v.xs.length := by rw [hmd]; unfold rL; simp
        have hdm := (parts_in hmm).2.1
        (repeat' ((conv => whnf) <;> first | (show idxK _ _ _ _ _; refine idx_of la X.2 hla rfl hX2 ?_) | (show roK _ _ _; (first | refine ro_row0 (fun R w' h => by rw [← hla]; exact rowsA_in h.2) m.cells (.int .i64 m.kind) hrow rfl ?_ | refine ro_row (j := X.2) (f := 7) (fun R w' h => by rw [← hla]; exact rowsA_in h.2) m.cells m.data.val hrow rfl ?_)) | (show @cmpK _ _ _; (first | refine cmp_no (fun h => h hmk) ?_ | refine cmp_no (fun h => h (by show ((m.data.xs.length : Nat) : Int) = _; rw [hmdl])) ?_)) | (show Wp _ _ _ _ _ _ _; refine Wp.go tabOk rfl ?_) | (show @cmpK _ _ _; (first | refine cmpY ?_ | refine cmpN ?_ | (refine cmp_both ?_ ?_ <;> intro _))) | (show wrapK _ _ _; refine wrapA ?_) | (show leK _ _ _; refine leA ?_) | (show roomK _ _ _; refine roomA ?_) | (show ltK _ _ _; refine ltA ?_) | (show _ ∧ _; refine ⟨?_, ?_⟩) | (show keepK _ _ _ _ _; refine keepA ?_) | refine own_keep ?_ | refine ap_old ?_))
        refine Wp.loop (σ := Nat) 10 (fun j => [(10, .lp 9 0 0 0), (117, .c (.slice fd.base v.xs.length fd.cap)), (118, .c (.int .i64 v.xs.length)), (119, .c (.int .i64 j))]) (fun _ => [(9, .box [.c (.slice base lt.length cap), .c (.int .i64 X.2)] 26), (8, .ext (dataO (partsL lt) true))])
          (fun _ => ((baseA w).and ((rowsA fd.base 1 (ints v.xs)).past w.heap.size)).and ((rowsA base 9 (nodeRows lt)).past w.heap.size)) (fun j => j ≤ v.xs.length) (fun j => v.xs.length - j) 0 [] (by decide) (fun s => ⟨rfl, rfl⟩)
          (Nat.zero_le _) ⟨rfl, ⟨rfl, rfl, rfl, rfl, trivial⟩, ⟨(by repeat (first | exact List.mem_cons_self | apply List.mem_cons_of_mem)), (by repeat (first | exact List.mem_cons_self | apply List.mem_cons_of_mem)), trivial⟩, fun R w' h => h⟩ ?_
        rintro j hj
        by_cases hjl : j < v.xs.length
        · refine Wp.know (p := ∃ a, fd.base = some a) (fun ρ w' hw => holds_of_abs hw fun R h => base_some (j := j) (rowsA_in h.1.2) (by rw [ints_length]; exact hjl)) ?_
          rintro ⟨fa, hfa⟩
          refine Wp.know (p := ∃ b off, m.data.base = some ⟨b, off, none⟩) (fun ρ w' hw => data_at hw (g := 8) (by repeat (first | exact List.mem_cons_self | apply List.mem_cons_of_mem)) hdm (show j < m.data.xs.length by rw [hmdl]; exact hjl)) ?_
          rintro ⟨b, off, hb⟩
          have hxg : v.xs.getD j 0 = v.xs[j] := by rw [List.getD_eq_getElem?_getD, List.getElem?_eq_getElem hjl]; rfl
          have hxb := hv.fits _ (List.getElem_mem hjl)
          have hget := rL_get hjl hxg
          rw [← hmd] at hget
          have hjm : j < m.data.xs.length := by rw [hmdl]; exact hjl
          generalize v.xs[j] = x at *
          have hxx := mul_bd (x := x) (y := x) (A := 128) (B := 128) (by omega) (by omega)
          (repeat' ((conv => whnf) <;> first | (show Wp _ (Code.seq (Code.region 29 _ _) _) _ _ _ _ _; refine wp_then (Wp.reg tabOk 9 ?_)) | (show idxK _ _ _ _ _; (first | refine idx_of fa j hfa rfl hjl ?_ | refine idx_of la X.2 hla rfl hX2 ?_ | refine idx_of ⟨b, off, none⟩ j hb rfl hjm ?_)) | (show roK _ _ _; (first | refine ro_intv (fun R w' h => by rw [← hfa]; exact rowsA_in h.1.2) (j := j) hjl hxg ?_ | refine ro_row (j := X.2) (f := 7) (fun R w' h => by rw [← hla]; exact rowsA_in h.2) m.cells m.data.val hrow rfl ?_)) | (show Wp _ _ _ _ _ _ _; refine Wp.go tabOk rfl ?_) | (show @cmpK _ _ _; (first | refine cmpY ?_ | refine cmpN ?_ | (refine cmp_both ?_ ?_ <;> intro _))) | (show wrapK _ _ _; refine wrapA ?_) | (show leK _ _ _; refine leA ?_) | (show roomK _ _ _; refine roomA ?_) | (show ltK _ _ _; refine ltA ?_) | (show _ ∧ _; refine ⟨?_, ?_⟩) | (show keepK _ _ _ _ _; refine keepA ?_) | refine own_keep ?_ | refine ap_old ?_))
          refine RegW.peek tabOk (fun v => cellA ⟨b, off + j, none⟩ v) (fun v => v = .int .i64 (m.data.xs.getD j 0)) rfl (fun ρ w' hw => peek_exact hw (g := 8) (by repeat (first | exact List.mem_cons_self | apply List.mem_cons_of_mem)) hdm hjm hb) (fun v hv => ?_) ?_
          · conv => whnf
            exact ro_cell (fun R w' h => by show w'.cell? ((Addr.mk b off none).add (j * 1)) = _; rw [add_none, Nat.mul_one]; exact h.2) rfl
          rintro _ rfl
          show RegW _ _ _ _ _ _ _ _
          refine RegW.go tabOk 11 ?_
          (repeat' ((conv => whnf) <;> first | (show wrapK _ _ _; refine wrap_i64 (by omega) (by omega) ?_) | (show @cmpK _ _ _; refine cmp_no (fun h => h hget) ?_) | (show Wp _ _ _ _ _ _ _; refine Wp.go tabOk rfl ?_) | (show @cmpK _ _ _; (first | refine cmpY ?_ | refine cmpN ?_ | (refine cmp_both ?_ ?_ <;> intro _))) | (show wrapK _ _ _; refine wrapA ?_) | (show leK _ _ _; refine leA ?_) | (show roomK _ _ _; refine roomA ?_) | (show ltK _ _ _; refine ltA ?_) | (show _ ∧ _; refine ⟨?_, ?_⟩) | (show keepK _ _ _ _ _; refine keepA ?_) | refine own_keep ?_ | refine ap_old ?_))
          all_goals (conv => whnf)
          all_goals exact ⟨j + 1, [], hjl, by omega, rfl, ⟨rfl, rfl, rfl, rfl, trivial⟩, ⟨(by repeat (first | exact List.mem_cons_self | apply List.mem_cons_of_mem)), (by repeat (first | exact List.mem_cons_self | apply List.mem_cons_of_mem)), trivial⟩, fun R w' h => h⟩
        · (repeat' ((conv => whnf) <;> first | (show Wp _ _ _ _ _ _ _; refine Wp.go tabOk rfl ?_) | (show @cmpK _ _ _; (first | refine cmpY ?_ | refine cmpN ?_ | (refine cmp_both ?_ ?_ <;> intro _))) | (show wrapK _ _ _; refine wrapA ?_) | (show leK _ _ _; refine leA ?_) | (show roomK _ _ _; refine roomA ?_) | (show ltK _ _ _; refine ltA ?_) | (show _ ∧ _; refine ⟨?_, ?_⟩) | (show keepK _ _ _ _ _; refine keepA ?_) | refine own_keep ?_ | refine ap_old ?_))
          all_goals (conv => whnf)
          all_goals exact ends_bool (fun _ _ h => h.1.1) rfl rfl
      · refine call_tidyW 5 X Try.call22 (fun ρ w' hw => htd w' (holds_of_abs hw fun R h => hgok h)) (fun _ => ?_) (fun h => absurd h (by decide))
        (repeat' ((conv => whnf) <;> first | (show @cmpK _ _ _; (first | refine cmp_yes (by decide) ?_ | refine cmp_yes rfl ?_)) | (show Wp _ _ _ _ _ _ _; refine Wp.go tabOk rfl ?_) | (show @cmpK _ _ _; (first | refine cmpY ?_ | refine cmpN ?_ | (refine cmp_both ?_ ?_ <;> intro _))) | (show wrapK _ _ _; refine wrapA ?_) | (show leK _ _ _; refine leA ?_) | (show roomK _ _ _; refine roomA ?_) | (show ltK _ _ _; refine ltA ?_) | (show _ ∧ _; refine ⟨?_, ?_⟩) | (show keepK _ _ _ _ _; refine keepA ?_) | refine own_keep ?_ | refine ap_old ?_))
        all_goals (conv => whnf)
        all_goals exact ends_bool (fun _ _ h => h.1.1.1.1.1) rfl rfl
  · refine calls_of tab tabOk Try.func8 rfl rfl rfl [] (fun _ => ⟨none, 0⟩) [.c t.val, .c v.val] [] (baseA w) 0 rfl rfl (by show 2 ≤ _; decide) (abs_base w) ?_
    (repeat' ((conv => whnf) <;> first | (show callK _ 19 _ _ _ _ _; refine call_pure (f := 19) Try.call19 (.bool true) (fun ρ w' hw => fixed18_any w') ?_) | (show Wp _ _ _ _ _ _ _; refine Wp.go tabOk rfl ?_) | (show @cmpK _ _ _; (first | refine cmpY ?_ | refine cmpN ?_ | (refine cmp_both ?_ ?_ <;> intro _))) | (show wrapK _ _ _; refine wrapA ?_) | (show leK _ _ _; refine leA ?_) | (show roomK _ _ _; refine roomA ?_) | (show ltK _ _ _; refine ltA ?_) | (show _ ∧ _; refine ⟨?_, ?_⟩) | (show keepK _ _ _ _ _; refine keepA ?_) | refine own_keep ?_ | refine ap_old ?_))
    all_goals (conv => whnf)
    all_goals first | exact ends_bool (fun _ _ h => h) rfl rfl | (exfalso; omega)
end Go.Proofs.Ytdmkdogakbipbaa

