import Derived.Test.YtdmkdogakbipbaaKTidyMeans9
/- JO -/
namespace Go.Proofs.Ytdmkdogakbipbaa
open Go.SX Go.RowKit
theorem MatIs.row {n : NodeV} {tl : List Int} {cnt : Nat} {x : MatV} (h : MatIs n tl cnt x) {o : Nat} (ho : o < x.rows.l.length) : x.rows.l.length = cnt ∧ x.rows.l[o].xs = matRow n tl o ∧ x.bias.xs.length = cnt ∧ x.bias.xs.getD o 0 = biasI n cnt o := by
  have h1 : x.rows.l.length = cnt := by
    have := congrArg List.length h.rows
    simpa [matRows] using this
  have h2 : (x.rows.l.map IntsV.xs)[o]? = ((List.range cnt).map (matRow n tl))[o]? := by rw [h.rows]; rfl
  rw [List.getElem?_map, List.getElem?_eq_getElem ho, List.getElem?_map, List.getElem?_range (by omega)] at h2
  have h3 : x.bias.xs.length = cnt := by rw [h.bias]; simp [matBias]
  refine ⟨h1, by simpa using h2, h3, ?_⟩
  rw [h.bias, matBias, List.getD_eq_getElem?_getD, List.getElem?_map, List.getElem?_range (by omega)]; rfl
theorem MatIs.count {n : NodeV} {tl : List Int} {cnt : Nat} {x : MatV} (h : MatIs n tl cnt x) : x.rows.l.length = cnt := by
  have := congrArg List.length h.rows
  simpa [matRows] using this
end Go.Proofs.Ytdmkdogakbipbaa

/- JP -/
namespace Go.Proofs.Ytdmkdogakbipbaa
open Go.SX Go.RowKit
end Go.Proofs.Ytdmkdogakbipbaa

/- JQ -/
namespace Go.Proofs.Ytdmkdogakbipbaa
open Go.SX Go.RowKit
end Go.Proofs.Ytdmkdogakbipbaa

/- JV -/
namespace Go.Proofs.Ytdmkdogakbipbaa
open Go.SX Go.RowKit
end Go.Proofs.Ytdmkdogakbipbaa

/- JR -/
namespace Go.Proofs.Ytdmkdogakbipbaa
open Go.SX Go.RowKit
end Go.Proofs.Ytdmkdogakbipbaa

/- JW -/
namespace Go.Proofs.Ytdmkdogakbipbaa
open Go.SX Go.RowKit
end Go.Proofs.Ytdmkdogakbipbaa

/- JS -/
namespace Go.Proofs.Ytdmkdogakbipbaa
open Go.SX Go.RowKit
end Go.Proofs.Ytdmkdogakbipbaa

/- JX -/
namespace Go.Proofs.Ytdmkdogakbipbaa
open Go.SX Go.RowKit
abbrev Mix := IntsV × Bool
def mixA (N : Nat) (l : List Mix) : Asn where
  holds R w := ∀ p ∈ l, p.2 = false → (newA N p.1).holds R w
  stable := fun hR hw h p hp e => (newA N p.1).stable hR hw (h p hp e)
structure MixIn (src : List IntsV) (l : List Mix) : Prop where
  sane : ∀ p ∈ l, p.1.sane
  old : ∀ p ∈ l, p.2 = true → p.1 ∈ src
theorem MixIn.ok {src : List IntsV} {w w' : World} {R : Nat → Prop} {N : Nat} {l : List Mix} (h : MixIn src l) (hs : ∀ u ∈ src, u.ok w) (hb : (baseA w).holds R w') (hm : (mixA N l).holds R w') : ∀ u ∈ l.map Prod.fst, u.ok w' := fun u hu => by
  obtain ⟨p, hp, rfl⟩ := List.mem_map.1 hu
  cases e : p.2 with
  | true => exact (hs _ (h.old p hp e)).later hb
  | false => exact intsA_ok (h.sane p hp) ((intsA p.1).mono (hm p hp e) (fun b hb => hb.1))
theorem MixIn.snoc {src : List IntsV} {l : List Mix} {p : Mix} (h : MixIn src l) (hs : p.1.sane) (ho : p.2 = true → p.1 ∈ src) : MixIn src (l ++ [p]) := by
  refine ⟨fun q hq => ?_, fun q hq => ?_⟩
  · rcases List.mem_append.1 hq with hq | hq
    · exact h.sane q hq
    · rw [List.mem_singleton.1 hq]; exact hs
  · rcases List.mem_append.1 hq with hq | hq
    · exact h.old q hq
    · rw [List.mem_singleton.1 hq]; exact ho
end Go.Proofs.Ytdmkdogakbipbaa

/- NR -/
namespace Go.Proofs.Ytdmkdogakbipbaa
open Go.SX Go.RowKit
end Go.Proofs.Ytdmkdogakbipbaa

/- NS -/
namespace Go.Proofs.Ytdmkdogakbipbaa
open Go.SX Go.RowKit
section
variable {P : IntsV → Prop} {N : Nat}
end
end Go.Proofs.Ytdmkdogakbipbaa

/- NT -/
namespace Go.Proofs.Ytdmkdogakbipbaa
open Go.SX Go.RowKit
end Go.Proofs.Ytdmkdogakbipbaa

/- NU -/
namespace Go.Proofs.Ytdmkdogakbipbaa
open Go.SX Go.RowKit
end Go.Proofs.Ytdmkdogakbipbaa

/- NV -/
namespace Go.Proofs.Ytdmkdogakbipbaa
open Go.SX Go.RowKit
structure RegW (cx : Cx) (ops : Array Oper) (l : List Oper) (env : Env) (H : Heap) (S : Asn) (nx : Nat) (K : Env → Heap → Asn → Nat → Prop) : Prop where
  out : ∀ ρ a w (Q : Exit → Act → World → Prop), Sat cx.n ρ nx env a → Abs cx.B ρ nx H S w →
    (∀ ρ' a' env' H' S' nx' w', (∀ i, i < nx → ρ' i = ρ i) → nx ≤ nx' → Sat cx.n ρ' nx' env' a' → Abs cx.B ρ' nx' H' S' w' → K env' H' S' nx' → Q .normal a' w') → wpList cx.P ops Q l a w
def regKW (cx : Cx) (ops : Array Oper) : Nat → List Oper → Env → Heap → Asn → Nat → (Env → Heap → Asn → Nat → Prop) → Prop
  | 0, l, env, H, S, nx, K => RegW cx ops l env H S nx K
  | _ + 1, [], env, H, S, nx, K => K env H S nx
  | n + 1, o :: r, env, H, S, nx, K => guardK cx.n ops.toList o.guard env (fun b => match b with
    | true => opE cx o.op env H S nx (fun v H' S' nx' => putEK env o.dst v fun env' => regKW cx ops n r env' H' S' nx' K)
    | false => putEK env o.dst (.c undef) fun env' => regKW cx ops n r env' H S nx K)
section
variable {cx : Cx} (hok : ∀ p ∈ cx.tab, mkTI cx.P p.1 = some p.2)
include hok in
theorem regKW_sound {ops : Array Oper} : ∀ {n : Nat} {l : List Oper} {env : Env} {H : Heap} {S : Asn} {nx : Nat} {K : Env → Heap → Asn → Nat → Prop}, regKW cx ops n l env H S nx K → RegW cx ops l env H S nx K
  | 0, l, env, H, S, nx, K, h => h
  | n + 1, [], env, H, S, nx, K, h => ⟨fun ρ a w Q hs hw hq => hq ρ a env H S nx w (fun _ _ => rfl) (Nat.le_refl _) hs hw h⟩
  | n + 1, o :: r, env, H, S, nx, K, h => by
    refine ⟨fun ρ a w Q hs hw hq => ?_⟩
    unfold regKW at h
    have h := guardK_spec hs h
    unfold wpList
    cases hwt : Region.wanted o (yielded ops a.tmps) with
    | true =>
      rw [hwt] at h
      dsimp only at h
      rw [if_pos rfl]
      refine .inl (opE_sound hok h hs hw ?_)
      intro v ρ' H' S' nx' w' h1 h2 h3 h4 h5
      rw [putEK_eq] at h5
      refine (regKW_sound h5).out _ _ _ _ (hs.put h1 h2 h3) h4 ?_
      intro ρ'' a'' env'' H'' S'' nx'' w'' g1 g2 g4 g5 g6
      exact hq ρ'' a'' env'' H'' S'' nx'' w'' (fun i hi => (g1 i (Nat.lt_of_lt_of_le hi h2)).trans (h1 i hi)) (Nat.le_trans h2 g2) g4 g5 g6
    | false =>
      rw [hwt] at h
      dsimp only at h
      rw [if_neg (by simp)]
      have hp := hs.put (ρ' := ρ) (nx' := nx) (d := o.dst) (v := .c undef) (fun _ _ => rfl) (Nat.le_refl _) (SV.lt_c _)
      rw [putEK_eq] at h
      refine (regKW_sound h).out _ _ _ _ hp hw ?_
      intro ρ'' a'' env'' H'' S'' nx'' w'' g1 g2 g4 g5 g6
      exact hq ρ'' a'' env'' H'' S'' nx'' w'' g1 g2 g4 g5 g6
include hok in
theorem RegW.go {ops : Array Oper} {l : List Oper} {env : Env} {H : Heap} {S : Asn} {nx : Nat} {K : Env → Heap → Asn → Nat → Prop} (n : Nat) (h : regKW cx ops n l env H S nx K) : RegW cx ops l env H S nx K := regKW_sound hok h
end
def dataO (us : List IntsV) (ex : Bool) : Own where
  holds _ F w := (∀ x, F x → ∃ u ∈ us, u.xs ≠ [] ∧ ∃ off, u.base = some ⟨x, off, none⟩) ∧
    ∀ u ∈ us, u.xs = [] ∨ ∃ b off c, u.base = some ⟨b, off, none⟩ ∧ F b ∧ w.heap[b]? = some (.cells c 3 (0, 0)) ∧ off + u.xs.length ≤ c.size ∧ ∀ i, i < u.xs.length → ∃ v : Int, c[off + i]? = some (.int .i64 v) ∧ (ex = true → u.xs[i]? = some v)
  stable := by
    rintro l F w w' hw ⟨h1, h2⟩
    refine ⟨h1, fun u hu => ?_⟩
    rcases h2 u hu with h | ⟨b, off, c, g1, g2, g3, g4⟩
    · exact .inl h
    · exact .inr ⟨b, off, c, g1, g2, (hw b g2).trans g3, g4⟩
  lt := by
    rintro l F w x ⟨h1, h2⟩ hx
    obtain ⟨u, hu, hne, off, hb⟩ := h1 x hx
    rcases h2 u hu with h | ⟨b, off', c, g1, g2, g3, g4⟩
    · exact absurd h hne
    · rw [hb] at g1
      simp only [Option.some.injEq, Addr.mk.injEq, and_true] at g1
      obtain ⟨rfl, rfl⟩ := g1
      exact (Array.getElem?_eq_some_iff.1 g3).1
theorem data_rows {us : List IntsV} {F : Nat → Prop} {w : World} {l : SX.Loc} (h : (dataO us true).holds l F w) {u : IntsV} (hu : u ∈ us) : RowsI w u.base 1 (ints u.xs) := by
  rcases h.2 u hu with h | ⟨b, off, c, g1, g2, g3, g4, g5⟩
  · left; rw [h]; rfl
  · refine .inr ⟨_, g1, fun i r hi j v hj => ?_⟩
    have hil : i < u.xs.length := by have := (List.getElem?_eq_some_iff.1 hi).1; rwa [ints_length] at this
    rw [ints_get hil] at hi
    simp only [Option.some.injEq] at hi
    subst hi
    cases j with
    | zero =>
      simp only [List.getElem?_cons_zero, Option.some.injEq] at hj
      subst hj
      obtain ⟨v, h1, h2⟩ := g5 i hil
      have e := h2 rfl
      rw [List.getElem?_eq_getElem hil, Option.some.injEq] at e
      subst e
      rw [add_none]
      simp [World.cell?, g3, h1]
    | succ j => simp at hj
end Go.Proofs.Ytdmkdogakbipbaa

/- NW -/
namespace Go.Proofs.Ytdmkdogakbipbaa
open Go.SX Go.RowKit
def partsL (l : List NodeV) : List IntsV := l.flatMap fun n => [n.shape, n.data, n.bias]
theorem parts_in {l : List NodeV} {n : NodeV} (h : n ∈ l) : n.shape ∈ partsL l ∧ n.data ∈ partsL l ∧ n.bias ∈ partsL l := by
  unfold partsL
  simp only [List.mem_flatMap]
  exact ⟨⟨n, h, by simp⟩, ⟨n, h, by simp⟩, ⟨n, h, by simp⟩⟩
theorem parts_data {l : List NodeV} {F : Nat → Prop} {w : World} {lo : SX.Loc} (hl : ∀ n ∈ l, (nodeT n).holds F w) : (dataO (partsL l) true).holds lo (fun x => ∃ u ∈ partsL l, u.xs ≠ [] ∧ ∃ off, u.base = some ⟨x, off, none⟩) w := by
  refine ⟨fun x hx => hx, fun u hu => ?_⟩
  unfold partsL at hu
  simp only [List.mem_flatMap, List.mem_cons, List.not_mem_nil, or_false] at hu
  obtain ⟨n, hn, hu'⟩ := hu
  have hT : (intsT u).holds F w := by
    have h := hl n hn
    rcases hu' with rfl | rfl | rfl
    · exact h.1
    · exact h.2.1
    · exact h.2.2
  have hm : u ∈ partsL l := by
    rcases hu' with rfl | rfl | rfl
    · exact (parts_in hn).1
    · exact (parts_in hn).2.1
    · exact (parts_in hn).2.2
  by_cases h0 : u.xs = []
  · exact .inl h0
  rcases hT with h | ⟨b, off, c, h1, h2, h3, h4, h5⟩
  · exact .inl h
  · refine .inr ⟨b, off, c, h1, ⟨u, hm, h0, off, h1⟩, h3, h4, fun i hi => ⟨u.xs[i], h5 i _ (List.getElem?_eq_getElem hi), fun _ => List.getElem?_eq_getElem hi⟩⟩
theorem parts_F {l : List NodeV} {F : Nat → Prop} {w : World} (hl : ∀ n ∈ l, (nodeT n).holds F w) {x : Nat} (h : ∃ u ∈ partsL l, u.xs ≠ [] ∧ ∃ off, u.base = some ⟨x, off, none⟩) : F x := by
  obtain ⟨u, hu, h0, off, hb⟩ := h
  unfold partsL at hu
  simp only [List.mem_flatMap, List.mem_cons, List.not_mem_nil, or_false] at hu
  obtain ⟨n, hn, hu'⟩ := hu
  have hT : (intsT u).holds F w := by
    have h := hl n hn
    rcases hu' with rfl | rfl | rfl
    · exact h.1
    · exact h.2.1
    · exact h.2.2
  rcases hT with h | ⟨b, off', c, h1, h2, _⟩
  · exact absurd h h0
  · rw [hb] at h1
    simp only [Option.some.injEq, Addr.mk.injEq, and_true] at h1
    obtain ⟨rfl, rfl⟩ := h1
    exact h2
/-- tidied: its numbers one's own -/
theorem call_tidyW {cx : Cx} {f : FuncId} {args : List SV} {H : Heap} {S : Asn} {nx : Nat} {K : SV → Heap → Asn → Nat → Prop} (r : Int) (x : List NodeP × Nat) (hf : ∀ ar w, (callFunc f ar).run cx.P w = .ok (.enter f ar) w)
    (hc : ∀ ρ w', Abs cx.B ρ nx H S w' → Calls cx.P f (SV.rfs ρ args).toArray w' (TidyPost w' r x))
    (h0 : r ≠ 0 → K (.c (.tuple #[.agg #[.slice none 0 0, .int .i64 0], .int .i64 r])) H S nx)
    (h1 : r = 0 → ∀ (l : List NodeV) (base : Option Addr) (cap : Nat), l.map NodeV.pl = x.1 → KeptOk l → K (.c (.tuple #[.agg #[.slice base l.length cap, .int .i64 x.2], .int .i64 0])) ((nx, .ext (dataO (partsL l) true)) :: H) (S.and ((rowsA base 9 (nodeRows l)).past cx.B.w0.heap.size)) (nx + 1)) : callK cx f args H S nx K := by
  rw [callK_def]
  refine ⟨hf, fun ρ w hw => (hc ρ w hw).mono ?_⟩
  rintro e w' (⟨hr, rfl, he⟩ | ⟨hr, l, base, cap, hx, hko, hcap, rfl, he, F, G, hF, hG, hFG, hn, hrow⟩)
  · exact ⟨.c (.tuple #[.agg #[.slice none 0 0, .int .i64 0], .int .i64 r]), ρ, H, S, nx, rfl, fun _ _ => rfl, Nat.le_refl _, SV.lt_c _, hw.ext he, h0 hr⟩
  · obtain ⟨R, φ, hwR⟩ := hw
    have hwR' := hwR.step (Step.of_ext he) (fun _ _ h => h) (fun _ _ _ _ h => h)
    have hG2 : AbsR cx.B (fun b => R b ∨ G b) φ ρ nx H (S.and ((rowsA base 9 (nodeRows l)).past cx.B.w0.heap.size)) w' := by
      refine ⟨hwR'.os, hwR'.tape, hwR'.output, hwR'.size, hwR'.pin, fun b hb => hb.elim (hwR'.ro b) (fun h => (hG b h).2), ⟨S.stable (fun _ h => .inl h) (fun _ _ => rfl) hwR'.asn, ?_⟩, hwR'.key, hwR'.ent, fun p hp b hb hb' => ?_, hwR'.sep⟩
      · exact (rowsA base 9 (nodeRows l)).stable (fun b hb => ⟨.inr hb, Nat.le_trans hwR.size (hG b hb).1⟩) (fun _ _ => rfl) hrow
      · rcases hb' with hb' | hb'
        · exact hwR'.apart p hp b hb hb'
        · have := Ent.size (hwR.ent p hp) hb
          have := (hG b hb').1
          omega
    refine ⟨.c (.tuple #[.agg #[.slice base l.length cap, .int .i64 x.2], .int .i64 0]), upd ρ nx ⟨none, 0⟩, _, _, nx + 1, rfl, fun i hi => upd_lt hi, Nat.le_succ _, SV.lt_c _, ?_, h1 hr l base cap hx hko⟩
    refine ⟨_, _, hG2.add (e := .ext (dataO (partsL l) true)) (l := ⟨none, 0⟩) (F := fun x => ∃ u ∈ partsL l, u.xs ≠ [] ∧ ∃ off, u.base = some ⟨x, off, none⟩) (fun y hy => by simp [Ent.hass] at hy) (parts_data hn) (fun y hy hR => ?_) (fun p hp y hy hy' => ?_)⟩
    · have hFy := parts_F hn hy
      rcases hR with hR | hR
      · have := hwR.ro y hR
        have := (hF y hFy).1
        omega
      · exact hFG y hFy hR
    · have hFy := parts_F hn hy'
      have := Ent.size (hwR.ent p hp) hy
      have := (hF y hFy).1
      omega
theorem spansH_pl {g h : GraphV} (hl : g.l.map NodeV.pl = h.l.map NodeV.pl) (ho : g.out = h.out) : spansH g = spansH h := by
  unfold spansH
  rw [check_pl hl ho, spansQ_pl hl]
theorem tidied_fit {B : Base} {ρ : Nat → SX.Loc} {nx i : Nat} {H : Heap} {S : Asn} {w : World} {l : List NodeV} {base : Option Addr} {cap : Nat} {out : Int} (hw : Abs B ρ nx H S w) (hi : (i, Ent.ext (dataO (partsL l) true)) ∈ H) (hr : ∀ R w', S.holds R w' → RowsI w' base 9 (nodeRows l)) (hko : KeptOk l) (hl : l.length ≤ 1000000) : (GraphV.mk base cap l out).fit w := by
  obtain ⟨R, φ, hwR⟩ := hw
  have hd : (dataO (partsL l) true).holds (ρ i) (φ i) w := hwR.ent _ hi
  refine ⟨hr R w hwR.asn, fun n hn => ?_, hl⟩
  have hs := (hko n hn).1
  have p := parts_in hn
  exact ⟨⟨data_rows hd p.1, hs.shape.fits, hs.shape.room, hs.shape.few⟩, ⟨data_rows hd p.2.1, hs.data.fits, hs.data.room, hs.data.few⟩, ⟨data_rows hd p.2.2, hs.bias.fits, hs.bias.room, hs.bias.few⟩, hs.kindFits, hs.aFits, hs.bFits, hs.loFits, hs.hiFits, hs.sizeFits⟩
end Go.Proofs.Ytdmkdogakbipbaa

/- NX -/
namespace Go.Proofs.Ytdmkdogakbipbaa
open Go.SX Go.RowKit
def scaleN (y : IntsV) : NodeV := ⟨7, 0, 0, nilI, 0, 0, 0, y, nilI⟩
def gT (nb : Option Addr) (nc : Nat) (u v y : IntsV) : GraphV := ⟨nb, nc, [constN u v, scaleN y], 1⟩
def gTP : GraphV := gT none 0 ⟨none, 0, [1]⟩ ⟨none, 0, [2]⟩ ⟨none, 0, [3]⟩
theorem gTP_spans : (spansH gTP).1 = 0 := by kernel_rfl
theorem gTP_tidy : tidyP (gTP.l.map NodeV.pl) (check gTP).2 1 = ([⟨2, 0, 0, [1], 0, 0, 0, [6], []⟩], 0) := by kernel_rfl
theorem gT_all {nb : Option Addr} {nc : Nat} {u v y : IntsV} (hu : u.xs = [1]) (hv : v.xs = [2]) (hy : y.xs = [3]) : (spansH (gT nb nc u v y)).1 = 0 ∧ tidyP ((gT nb nc u v y).l.map NodeV.pl) (check (gT nb nc u v y)).2 1 = ([⟨2, 0, 0, [1], 0, 0, 0, [6], []⟩], 0) := by
  have hl : (gT nb nc u v y).l.map NodeV.pl = gTP.l.map NodeV.pl := by
    show [NodeP.mk 2 0 0 u.xs 0 0 0 v.xs [], NodeP.mk 7 0 0 [] 0 0 0 y.xs []] = _
    rw [hu, hv, hy]; rfl
  rw [spansH_pl hl rfl, hl, check_pl hl rfl]
  exact ⟨gTP_spans, gTP_tidy⟩
theorem gT_ok {w : World} {nb : Option Addr} {nc : Nat} {u v y : IntsV} (hr : RowsI w nb 9 (nodeRows [constN u v, scaleN y])) (hu : u.ok w) (hv : v.ok w) (hy : y.ok w) (h2 : v.xs.length ≤ 5000) (h3 : y.xs.length ≤ 5000) : (gT nb nc u v y).ok w := by
  refine ⟨hr, fun n hn => ?_, fun n hn => ?_, (show 2 ≤ 1000000 by decide), i64_1⟩
  · rcases List.mem_cons.1 hn with rfl | hn
    · exact constN_ok hu hv
    · rw [List.mem_singleton.1 hn]
      exact ⟨nil_ok w, hy, nil_ok w, (show i64 7 from ⟨by decide, by decide⟩), i64_0, i64_0, i64_0, i64_0, i64_0⟩
  · rcases List.mem_cons.1 hn with rfl | hn
    · exact ⟨h2, Nat.zero_le _⟩
    · rw [List.mem_singleton.1 hn]; exact ⟨h3, Nat.zero_le _⟩
set_option maxRecDepth 20000 in
set_option maxHeartbeats 1000000 in
theorem fixed18_any (w : World) : Calls Try.prog 19 #[] w fun e w' => e = .returned (.bool true) ∧ Ext w w' := by
  refine calls_of tab tabOk Try.func19 rfl rfl rfl [] (fun _ => ⟨none, 0⟩) [] [] (baseA w) 0 rfl rfl (by show 0 ≤ _; decide) (abs_base w) ?_
  (repeat' ((conv => whnf) <;> first | (show Wp _ _ _ _ _ _ _; refine Wp.go tabOk rfl ?_) | (show @cmpK _ _ _; (first | refine cmpY ?_ | refine cmpN ?_ | (refine cmp_both ?_ ?_ <;> intro _))) | (show wrapK _ _ _; refine wrapA ?_) | (show leK _ _ _; refine leA ?_) | (show roomK _ _ _; refine roomA ?_) | (show ltK _ _ _; refine ltA ?_) | (show _ ∧ _; refine ⟨?_, ?_⟩) | (show keepK _ _ _ _ _; refine keepA ?_) | refine ap_old ?_))
  refine freeze_intsI (w0 := w) [1] (fun R w' h => h) rfl rfl (few_i64 rfl) (by decide) (fun u hu hus => ?_)
  (repeat' ((conv => whnf) <;> first | (show Wp _ _ _ _ _ _ _; refine Wp.go tabOk rfl ?_) | (show @cmpK _ _ _; (first | refine cmpY ?_ | refine cmpN ?_ | (refine cmp_both ?_ ?_ <;> intro _))) | (show wrapK _ _ _; refine wrapA ?_) | (show leK _ _ _; refine leA ?_) | (show roomK _ _ _; refine roomA ?_) | (show ltK _ _ _; refine ltA ?_) | (show _ ∧ _; refine ⟨?_, ?_⟩) | (show keepK _ _ _ _ _; refine keepA ?_) | refine ap_old ?_))
  refine freeze_intsI (w0 := w) [2] (fun R w' h => h.1) rfl rfl (few_i64 rfl) (by decide) (fun v hv hvs => ?_)
  (repeat' ((conv => whnf) <;> first | (show Wp _ _ _ _ _ _ _; refine Wp.go tabOk rfl ?_) | (show @cmpK _ _ _; (first | refine cmpY ?_ | refine cmpN ?_ | (refine cmp_both ?_ ?_ <;> intro _))) | (show wrapK _ _ _; refine wrapA ?_) | (show leK _ _ _; refine leA ?_) | (show roomK _ _ _; refine roomA ?_) | (show ltK _ _ _; refine ltA ?_) | (show _ ∧ _; refine ⟨?_, ?_⟩) | (show keepK _ _ _ _ _; refine keepA ?_) | refine ap_old ?_))
  refine freeze_intsI (w0 := w) [3] (fun R w' h => h.1.1) rfl rfl (few_i64 rfl) (by decide) (fun y hy hys => ?_)
  (repeat' ((conv => whnf) <;> first | (show Wp _ _ _ _ _ _ _; refine Wp.go tabOk rfl ?_) | (show @cmpK _ _ _; (first | refine cmpY ?_ | refine cmpN ?_ | (refine cmp_both ?_ ?_ <;> intro _))) | (show wrapK _ _ _; refine wrapA ?_) | (show leK _ _ _; refine leA ?_) | (show roomK _ _ _; refine roomA ?_) | (show ltK _ _ _; refine ltA ?_) | (show _ ∧ _; refine ⟨?_, ?_⟩) | (show keepK _ _ _ _ _; refine keepA ?_) | refine ap_old ?_))
  refine freeze_nodesI (w0 := w) [constN u v, scaleN y] (fun R w' h => h.1.1.1) rfl rfl (fun nb nc => ?_)
  obtain ⟨hS, hR⟩ := gT_all (nb := nb) (nc := nc) hu hv hy
  (repeat' ((conv => whnf) <;> first | (show Wp _ _ _ _ _ _ _; refine Wp.go tabOk rfl ?_) | (show @cmpK _ _ _; (first | refine cmpY ?_ | refine cmpN ?_ | (refine cmp_both ?_ ?_ <;> intro _))) | (show wrapK _ _ _; refine wrapA ?_) | (show leK _ _ _; refine leA ?_) | (show roomK _ _ _; refine roomA ?_) | (show ltK _ _ _; refine ltA ?_) | (show _ ∧ _; refine ⟨?_, ?_⟩) | (show keepK _ _ _ _ _; refine keepA ?_) | refine ap_old ?_))
  refine call_tidyW 0 _ Try.call22 (fun ρ w' hw => by have := tidy_any w' (gT nb nc u v y) (holds_of_abs hw fun R h => gT_ok (rowsA_in h.2) (intsA_ok hus h.1.1.1.2) (intsA_ok hvs h.1.1.2) (intsA_ok hys h.1.2) (by rw [hv]; decide) (by rw [hy]; decide)); rw [hS] at this; erw [hR] at this; exact this) (fun h => absurd rfl h) (fun _ l hb hc hl hko => ?_)
  obtain ⟨z, rfl⟩ : ∃ z, l = [z] := by
    have h1 : l.length = 1 := by simpa using congrArg List.length hl
    match l, h1 with
    | [z], _ => exact ⟨z, rfl⟩
  have hz : z.pl = ⟨2, 0, 0, [1], 0, 0, 0, [6], []⟩ := by simpa using hl
  have hzk : z.kind = 2 := congrArg NodeP.kind hz
  have hzd : z.data.xs = [6] := congrArg NodeP.data hz
  refine Wp.know (p := ∃ a, hb = some a) (fun ρ w' hw => holds_of_abs hw fun R h => base_some (j := 0) (rowsA_in h.2) (show 0 < 1 by decide)) ?_
  rintro ⟨ha, rfl⟩
  (repeat' ((conv => whnf) <;> first | (show @cmpK _ _ _; (first | refine cmp_yes rfl ?_ | refine cmp_yes hzk ?_)) | (show idxK _ _ _ _ _; refine idx_of ha 0 rfl rfl (show 0 < 1 by decide) ?_) | (show roK _ _ _; (first | refine ro_row (j := 0) (f := 0) (fun R w' h => rowsA_in h.2) z.cells (.int .i64 z.kind) rfl rfl ?_ | refine ro_row0 (j := 0) (fun R w' h => rowsA_in h.2) z.cells (.int .i64 z.kind) rfl rfl ?_ | refine ro_row (j := 0) (f := 7) (fun R w' h => rowsA_in h.2) z.cells z.data.val rfl rfl ?_)) | (show Wp _ _ _ _ _ _ _; refine Wp.go tabOk rfl ?_) | (show @cmpK _ _ _; (first | refine cmpY ?_ | refine cmpN ?_ | (refine cmp_both ?_ ?_ <;> intro _))) | (show wrapK _ _ _; refine wrapA ?_) | (show leK _ _ _; refine leA ?_) | (show roomK _ _ _; refine roomA ?_) | (show ltK _ _ _; refine ltA ?_) | (show _ ∧ _; refine ⟨?_, ?_⟩) | (show keepK _ _ _ _ _; refine keepA ?_) | refine ap_old ?_))
  refine freeze_intsI (w0 := w) [6] (fun R w' h => h.1.1.1.1.1) rfl rfl (few_i64 rfl) (by decide) (fun q hq hqs => ?_)
  (repeat' ((conv => whnf) <;> first | (show @cmpK _ _ _; (first | refine cmp_yes rfl ?_ | refine cmp_yes hzk ?_)) | (show callK _ 26 _ _ _ _ _; (refine call_pure (f := 26) Try.call26 (.bool true) (fun ρ w' hw => by have := same_any w' z.data q ((tidied_fit (cap := 0) (out := 0) hw (by repeat (first | exact List.mem_cons_self | apply List.mem_cons_of_mem)) (fun R w' h => rowsA_in h.1.2) hko (show 1 ≤ 1000000 by decide)).each z List.mem_cons_self).data (holds_of_abs hw fun R h => intsA_ok hqs h.2); rw [decide_eq_true (hzd.trans hq.symm)] at this; exact this) ?_)) | (show Wp _ _ _ _ _ _ _; refine Wp.go tabOk rfl ?_) | (show @cmpK _ _ _; (first | refine cmpY ?_ | refine cmpN ?_ | (refine cmp_both ?_ ?_ <;> intro _))) | (show wrapK _ _ _; refine wrapA ?_) | (show leK _ _ _; refine leA ?_) | (show roomK _ _ _; refine roomA ?_) | (show ltK _ _ _; refine ltA ?_) | (show _ ∧ _; refine ⟨?_, ?_⟩) | (show keepK _ _ _ _ _; refine keepA ?_) | refine own_keep ?_ | refine ap_old ?_))
  conv => whnf
  exact ends_bool (fun R w' h => h.1.1.1.1.1.1) rfl rfl
end Go.Proofs.Ytdmkdogakbipbaa

/- HB -/
namespace Go.Proofs.Ytdmkdogakbipbaa
open Go.SX Go.RowKit Go.ChangeShapes Go.WideShapes Go.ChangeAt
structure BytesV.raw (w : World) (t : BytesV) : Prop where
  rows : RowsI w t.base 1 (bytesR t.bs)
  fits : ∀ x ∈ t.bs, x ≤ 255
theorem addr_plain {w : World} {a : Addr} {v : Value} (h : w.cell? a = some v) : a = ⟨a.block, a.off, none⟩ := by
  obtain ⟨b, o, p⟩ := a
  cases p with
  | none => rfl
  | some x =>
    simp only [World.cell?, Option.isSome_some, if_true] at h
    split at h <;> cases h
theorem bytesD_raw {w : World} {t : BytesV} (h : t.raw w) : (bytesD t).holds (fun b => b < w.heap.size) w := by
  refine ⟨fun r hr => ?_, ?_⟩
  · simp only [bytesR, List.mem_map] at hr
    obtain ⟨x, _, rfl⟩ := hr
    exact ⟨rfl, fun v hv => by simp at hv; subst hv; rfl⟩
  rcases h.rows with h0 | ⟨a, ha, hc⟩
  · exact .inl h0
  · cases hl : t.bs with
    | nil => exact .inl rfl
    | cons x r =>
      have h1 : w.cell? (a.add (0 * 1 + 0)) = some (.int .u8 (x : Int)) := hc 0 [.int .u8 (x : Int)] (by rw [hl]; rfl) 0 _ rfl
      have h2 : a.add (0 * 1 + 0) = a := by simp [Addr.add]
      rw [h2] at h1
      have ea := addr_plain h1
      refine .inr ⟨a.block, a.off, by rw [ha, ← ea], cell_block h1, fun i q hi j v hj => ?_⟩
      have := hc i q (by rw [hl]; exact hi) j v hj
      rw [ea, add_none] at this
      exact this
theorem base_bytes {w w' : World} {R : Nat → Prop} {t : BytesV} (h : t.raw w) (hb : (baseA w).holds R w') : (bytesD t).holds R w' :=
  (bytesD t).stable (fun b hb' => (hb b hb').1) (fun b hb' => (hb b hb').2) (bytesD_raw h)
theorem wf_u8' {x : Int} (h : (Lit.int .u8 x).wf = true) : 0 ≤ x ∧ x ≤ 255 := by
  simp [Lit.wf, IntKind.min, IntKind.max, IntKind.signed, IntKind.bits] at h
  omega
theorem opens_bytes (w : World) : Opens Try.prog w 22 fun cs => ∃ t : BytesV, cs = [t.val] ∧ t.raw w := by
  refine Opens.mono (opens_slice (k := 1) Try.underlying22 (by kernel_rfl) (opens_int Try.underlying5)) ?_
  rintro cs ⟨base, cap, xs, rfl, h1, h2, h3, h4, h5⟩
  obtain ⟨l, rfl, hl⟩ := list_map_of (f := fun (i : Nat) => [Value.int .u8 (i : Int)]) (p := fun i => i ≤ 255) fun r hr => by
    obtain ⟨_, i, hi, rfl⟩ := h2 r hr
    have := wf_u8' hi
    exact ⟨i.toNat, by omega, by rw [show ((i.toNat : Nat) : Int) = i by omega]⟩
  exact ⟨⟨base, cap, l⟩, by simp [BytesV.val], h1, hl⟩

end Go.Proofs.Ytdmkdogakbipbaa

/- JCa -/
namespace Go.Proofs.Ytdmkdogakbipbaa
open Go.SX Go.RowKit
theorem call_inputs {cx : Cx} {f : FuncId} {H : Heap} {S : Asn} {nx i : Nat} {K : SV → Heap → Asn → Nat → Prop} (t : BytesV) (k : Nat) (gb : Option Addr) (gc : Nat) (l : List NodeV) (out : Int) (hi : (i, Ent.box (cs (tcells t k)) 30) ∈ H) (hf : ∀ ar w, (callFunc f ar).run cx.P w = .ok (.enter f ar) w)
    (hsm : t.bs.length ≤ 1000000) (hby : ∀ x ∈ t.bs, x ≤ 255) (hk : k ≤ t.bs.length) (hS : ∀ R w', S.holds R w' → (bytesD t).holds R w') (hlen : l.length ≤ 24) (hr : ∀ R w', S.holds R w' → (rowsA gb 9 (nodeRows l)).holds R w') (hnd : ∀ R w', S.holds R w' → (nodesD l).holds R w') (hn : ∀ n ∈ l, NodeRd n)
    (hc : ∀ w' b, TapeOk w' b t k → (rowsA gb 9 (nodeRows l)).holds (oth w' b) w' → (nodesD l).holds (oth w' b) w' → Calls cx.P f #[.agg #[.slice gb l.length gc, .int .i64 out], .pointer (some ⟨b, 0, none⟩)] w' (InputsPost w' b t l))
    (h : ∀ x k', InpOut l x → K (.c x.val) (setH i (.box (cs (tcells t k')) 30) H) (S.and ((shapesD x).past cx.B.w0.heap.size)) nx) : callK cx f [.agg [.c (.slice gb l.length gc), .c (.int .i64 out)], .lp i 0 0 0] H S nx K := by
  refine call_box hi hf (fun x : ShapesV × Nat => x.1.val) (fun x => tcells t x.2) (fun x => shapesD x.1) (fun x => InpOut l x.1 ∧ x.2 ≤ t.bs.length) ?_ (fun x hx => h x.1 x.2 hx.1)
  intro R ρ w' b hw hR hRo hρ hb
  rw [rfs_cs] at hb
  have := hc w' b ⟨hsm, hby, (bytesD t).mono (hS R w' hR) hRo, hk, hb⟩ ((rowsA gb 9 (nodeRows l)).mono (hr R w' hR) hRo) ((nodesD l).mono (hnd R w' hR) hRo)
  have e : SV.rfs ρ [.agg [.c (.slice gb l.length gc), .c (.int .i64 out)], .lp i 0 0 0] = [.agg #[.slice gb l.length gc, .int .i64 out], .pointer (some ⟨b, 0, none⟩)] := by
    simp only [SV.rfs, SV.rf, hρ, Option.map_some, add_none]
  rw [e]
  exact this
theorem made_check {l : List NodeV} (hml : MadeL l) (h24 : l.length ≤ 24) : ∃ sh, checkR l [] = (0, sh) ∧ ∀ base cap out, 0 ≤ out → out < (l.length : Int) → check ⟨base, cap, l, out⟩ = (0, sh) := by
  obtain ⟨sh, hsh, _⟩ := hml.shapes
  exact ⟨sh, hsh, fun base cap out h0 h1 => check_made hml.one h24 ⟨h0, h1⟩ hsh⟩
theorem made_spans {l : List NodeV} {sh : List (List Int)} (hck : ∀ base cap out, 0 ≤ out → out < (l.length : Int) → check ⟨base, cap, l, out⟩ = (0, sh)) (base : Option Addr) (cap : Nat) (out : Int) (h0 : 0 ≤ out) (h1 : out < l.length) : spansH ⟨base, cap, l, out⟩ = spansQ sh l [] ∧ ∀ inp, valsH ⟨base, cap, l, out⟩ inp = valsQ sh l [] inp := by
  unfold spansH valsH
  rw [hck base cap out h0 h1]
  exact ⟨rfl, fun _ => rfl⟩
theorem made_read {l : List NodeV} (hml : MadeL l) (h24 : l.length ≤ 24) : ∀ n ∈ l, NodeRd n := by
  obtain ⟨sh, hsh, hck⟩ := made_check hml h24
  have h1 := hml.one
  have hc := hck none 0 0 (Int.le_refl _) (by omega)
  obtain ⟨_, _, _, _, hin⟩ := check_in (g := ⟨none, 0, l, 0⟩) (by rw [hc])
  intro n hn
  obtain ⟨i, hi⟩ := List.mem_iff_getElem?.1 hn
  obtain ⟨s, hs, hni⟩ := hin i n hi
  obtain ⟨nd, nb, nlo, nhi, nle⟩ := near_in hni.near
  exact ⟨hml.each n hn, nlo, nhi, nle⟩
end Go.Proofs.Ytdmkdogakbipbaa

/- PJ -/
namespace Go.Proofs.Ytdmkdogakbipbaa
open Go.SX Go.RowKit
set_option maxRecDepth 20000 in
set_option maxHeartbeats 4000000 in
theorem lawTidyMeans_any (w : World) (t d : BytesV) (ht : t.raw w) (hd : d.raw w) : Calls Try.prog 5 #[t.val, d.val] w fun e w' => e = .returned (.bool true) ∧ Ext w w' := by
  by_cases h300 : t.bs.length ≤ 300 ∧ d.bs.length ≤ 300
  · obtain ⟨ht3, hd3⟩ := h300
    refine calls_of tab tabOk Try.func5 rfl rfl rfl [] (fun _ => ⟨none, 0⟩) [.c t.val, .c d.val] [] (baseA w) 0 rfl rfl (by show 2 ≤ _; decide) (abs_base w) ?_
    (repeat' ((conv => whnf) <;> first | (show callK _ 19 _ _ _ _ _; refine call_pure (f := 19) Try.call19 (.bool true) (fun ρ w' hw => fixed18_any w') ?_) | (show Wp _ _ _ _ _ _ _; refine Wp.go tabOk rfl ?_) | (show @cmpK _ _ _; (first | refine cmpY ?_ | refine cmpN ?_ | (refine cmp_both ?_ ?_ <;> intro _))) | (show wrapK _ _ _; refine wrapA ?_) | (show leK _ _ _; refine leA ?_) | (show roomK _ _ _; refine roomA ?_) | (show ltK _ _ _; refine ltA ?_) | (show _ ∧ _; refine ⟨?_, ?_⟩) | (show keepK _ _ _ _ _; refine keepA ?_) | refine own_keep ?_ | refine ap_old ?_))
    refine call_graph (f := 16) t 0 (by repeat (first | exact List.mem_cons_self | apply List.mem_cons_of_mem)) Try.call16 (by omega) ht.fits (Nat.zero_le _) (fun R w' h => base_bytes ht h) (fun w' b htk => make_any w' b t 0 htk) (fun l out k' hml h8 ho0 ho1 => ?_)
    obtain ⟨sh, hsh, hck⟩ := made_check hml (by omega)
    have hsp := fun base cap => made_spans hck base cap out ho0 ho1
    have hl1 := hml.one
    (repeat' ((conv => whnf) <;> first | (show @cmpK _ _ _; (first | refine cmpY ?_ | refine cmpN ?_ | (refine cmp_both ?_ ?_ <;> intro _))) | (show wrapK _ _ _; refine wrapA ?_) | (show leK _ _ _; refine leA ?_) | (show roomK _ _ _; refine roomA ?_) | (show ltK _ _ _; refine ltA ?_) | (show _ ∧ _; refine ⟨?_, ?_⟩) | (show keepK _ _ _ _ _; refine keepA ?_) | refine own_keep ?_ | refine ap_old ?_))
    all_goals (conv => whnf)
    refine Wp.freezeN 1 w.heap.size (k := 9) (xs := nodeRows l) (T := 38) (by repeat (first | exact List.mem_cons_self | apply List.mem_cons_of_mem)) (fun R w' h b hb => (h.1 b hb).1) (fun l1 hl1 => ?_)
    obtain ⟨hsp1, hvq⟩ := hsp l1.base l1.cap
    have hck1 := hck l1.base l1.cap out ho0 ho1
    have hgok : ∀ {R : Nat → Prop} {w' : World}, (((baseA w).and ((nodesD l).past w.heap.size)).and ((rowsA l1.base 9 (nodeRows l)).past w.heap.size)).holds R w' → (⟨l1.base, l1.cap, l, out⟩ : GraphV).ok w' := fun h => graph_ok hml.each (by omega) (rowsA_in h.2) ((nodesD l).mono h.1.2 (fun b hb => hb.1)) ⟨by omega, by omega⟩
    have htd : ∀ w', (⟨l1.base, l1.cap, l, out⟩ : GraphV).ok w' → Calls Try.prog 22 #[(⟨l1.base, l1.cap, l, out⟩ : GraphV).val] w' (TidyPost w' (spansQ sh l []).1 (tidyP (l.map NodeV.pl) sh out.toNat)) := fun w' h => by
      have := tidy_any w' ⟨l1.base, l1.cap, l, out⟩ h
      rw [hsp1, hck1] at this
      exact this
    have htells := fun h inp V hv => tidied_tells (g := ⟨l1.base, l1.cap, l, out⟩) (inp := inp) (V := V) (by rw [hsp1]; exact h) (by rw [hck1]; exact hv)
    have hinsE := fun (lt : List NodeV) h => tidied_ins (g := ⟨l1.base, l1.cap, l, out⟩) (h := ⟨none, 0, lt, 0⟩) (by rw [hsp1]; exact h)
    have hfew := fun h => tidied_few (g := ⟨l1.base, l1.cap, l, out⟩) (by rw [hsp1]; exact h)
    rw [hck1] at htells hinsE hfew
    generalize tidyP (l.map NodeV.pl) sh out.toNat = X at *
    (repeat' ((conv => whnf) <;> first | (show Wp _ _ _ _ _ _ _; refine Wp.go tabOk rfl ?_) | (show @cmpK _ _ _; (first | refine cmpY ?_ | refine cmpN ?_ | (refine cmp_both ?_ ?_ <;> intro _))) | (show wrapK _ _ _; refine wrapA ?_) | (show leK _ _ _; refine leA ?_) | (show roomK _ _ _; refine roomA ?_) | (show ltK _ _ _; refine ltA ?_) | (show _ ∧ _; refine ⟨?_, ?_⟩) | (show keepK _ _ _ _ _; refine keepA ?_) | refine own_keep ?_ | refine ap_old ?_))
    by_cases he : (spansQ sh l []).1 = 0
    · refine call_tidyW (spansQ sh l []).1 X Try.call22 (fun ρ w' hw => htd w' (holds_of_abs hw fun R h => hgok h)) (fun h => absurd he h) (fun _ lt base cap hlt hko => ?_)
      obtain ⟨hlf, hXo⟩ := hfew he
      have hlf : X.1.length ≤ l.length := hlf
      have hltl : lt.length = X.1.length := by rw [← hlt, List.length_map]
      (repeat' ((conv => whnf) <;> first | (show Wp _ _ _ _ _ _ _; refine Wp.go tabOk rfl ?_) | (show @cmpK _ _ _; (first | refine cmpY ?_ | refine cmpN ?_ | (refine cmp_both ?_ ?_ <;> intro _))) | (show wrapK _ _ _; refine wrapA ?_) | (show leK _ _ _; refine leA ?_) | (show roomK _ _ _; refine roomA ?_) | (show ltK _ _ _; refine ltA ?_) | (show _ ∧ _; refine ⟨?_, ?_⟩) | (show keepK _ _ _ _ _; refine keepA ?_) | refine own_keep ?_ | refine ap_old ?_))
      refine call_spans (f := 25) (spansQ sh l []) Try.call25 (fun ρ w' hw => by have := spans_all w' ⟨l1.base, l1.cap, l, out⟩ (holds_of_abs hw fun R h => hgok h.1); rw [hsp1] at this; exact this) (fun hne => absurd he hne) (fun _ sb sc => ?_)
      (repeat' ((conv => whnf) <;> first | (show @cmpK _ _ _; refine cmp_no (fun h => h rfl) ?_) | (show Wp _ _ _ _ _ _ _; refine Wp.go tabOk rfl ?_) | (show @cmpK _ _ _; (first | refine cmpY ?_ | refine cmpN ?_ | (refine cmp_both ?_ ?_ <;> intro _))) | (show wrapK _ _ _; refine wrapA ?_) | (show leK _ _ _; refine leA ?_) | (show roomK _ _ _; refine roomA ?_) | (show ltK _ _ _; refine ltA ?_) | (show _ ∧ _; refine ⟨?_, ?_⟩) | (show keepK _ _ _ _ _; refine keepA ?_) | refine own_keep ?_ | refine ap_old ?_))
      refine Wp.loop (σ := Nat × List NodeV) 6 (fun ⟨j, acc⟩ => [(1, .c d.val), (5, .lp 2 0 0 0), (6, .lp 4 0 0 0), (10, .os 5 acc.length), (11, .c (.slice none 0 0)), (62, .c (.slice l1.base l.length l1.cap)), (63, .c (.int .i64 l.length)), (64, .c (.int .i64 j))])
        (fun ⟨j, acc⟩ => [(5, .rows (nodeRows acc) 9 38), (4, .box [.c (.slice base lt.length cap), .c (.int .i64 X.2)] 26), (3, .ext (dataO (partsL lt) true)), (2, .box [.c (.slice l1.base l.length l1.cap), .c (.int .i64 out)] 26)])
        (fun _ => (((baseA w).and ((nodesD l).past w.heap.size)).and ((rowsA l1.base 9 (nodeRows l)).past w.heap.size)).and ((rowsA base 9 (nodeRows lt)).past w.heap.size)) (fun ⟨j, acc⟩ => j ≤ l.length ∧ acc = (l.take j).filter (fun n => decide (n.kind = 1))) (fun s => l.length - s.1) (0, []) [(5, none)] (by decide) (fun s => ⟨rfl, rfl⟩)
        ⟨Nat.zero_le _, rfl⟩ ⟨rfl, ⟨rfl, rfl, rfl, rfl, rfl, rfl, rfl, rfl, trivial⟩, ⟨rfl, (by repeat (first | exact List.mem_cons_self | apply List.mem_cons_of_mem)), (by repeat (first | exact List.mem_cons_self | apply List.mem_cons_of_mem)), (by repeat (first | exact List.mem_cons_self | apply List.mem_cons_of_mem)), trivial⟩, fun R w' h => h.1⟩ ?_
      rintro ⟨j, acc⟩ ⟨hj, hacc⟩
      by_cases hlt1 : j < l.length
      · refine Wp.know (p := ∃ a, l1.base = some a) (fun ρ w' hw => holds_of_abs hw fun R h => base_some (j := j) (rowsA_in h.1.2) (by rw [nodeRows_length]; exact hlt1)) ?_
        rintro ⟨la, hla⟩
        have hrow := nodeRows_get hlt1
        have hal : acc.length ≤ j := by rw [hacc]; refine Nat.le_trans (List.length_filter_le _ _) ?_; rw [List.length_take]; omega
        have htk : (l.take (j + 1)).filter (fun n => decide (n.kind = 1)) = acc ++ (if l[j].kind = 1 then [l[j]] else []) := by
          rw [List.take_add_one, List.getElem?_eq_getElem hlt1, List.filter_append, ← hacc]
          congr 1
          by_cases h1 : l[j].kind = 1
          · rw [if_pos h1]; simp [h1]
          · rw [if_neg h1]; simp [h1]
        generalize l[j] = n at *
        by_cases hk1 : n.kind = 1
        · rw [if_pos hk1] at htk
          (repeat' ((conv => whnf) <;> first | (show idxK _ _ _ _ _; refine idx_of la j hla rfl hlt1 ?_) | (show roAggK _ _ _ _; (refine roAgg_row (fun R w' h => by rw [← hla]; exact rowsA_in h.1.2) _ hrow rfl ?_)) | (show @cmpK _ _ _; refine cmp_yes hk1 ?_) | (show leK _ _ _; (first | refine le_of (Nat.zero_le _) ?_ | refine le_of (by rw [nodeRows_length]; exact Nat.le_refl _) ?_)) | (show roomK _ _ _; (refine room_of (by show (acc.length + 1) * 120 ≤ 140737488355328; omega) ?_)) | (show ownK _ ((_, .rows (List.take acc.length _ ++ _) _ _) :: _) _ _ _; refine own_eq (ys := nodeRows (acc ++ [n])) (m := (acc ++ [n]).length) ?_ (nodes_snoc acc n) (by show acc.length + 1 = _; rw [List.length_append]; rfl)) | (show Wp _ _ _ _ _ _ _; refine Wp.go tabOk rfl ?_) | (show @cmpK _ _ _; (first | refine cmpY ?_ | refine cmpN ?_ | (refine cmp_both ?_ ?_ <;> intro _))) | (show wrapK _ _ _; refine wrapA ?_) | (show leK _ _ _; refine leA ?_) | (show roomK _ _ _; refine roomA ?_) | (show ltK _ _ _; refine ltA ?_) | (show _ ∧ _; refine ⟨?_, ?_⟩) | (show keepK _ _ _ _ _; refine keepA ?_) | refine own_keep ?_ | refine ap_old ?_))
          all_goals (conv => whnf)
          all_goals exact ⟨(j + 1, acc ++ [n]), [(5, some 8)], ⟨hlt1, htk.symm⟩, by simp only; omega, rfl, ⟨rfl, rfl, rfl, rfl, rfl, rfl, rfl, rfl, trivial⟩, ⟨(by repeat (first | exact List.mem_cons_self | apply List.mem_cons_of_mem)), (by repeat (first | exact List.mem_cons_self | apply List.mem_cons_of_mem)), (by repeat (first | exact List.mem_cons_self | apply List.mem_cons_of_mem)), (by repeat (first | exact List.mem_cons_self | apply List.mem_cons_of_mem)), trivial⟩, fun R w' h => h⟩
        · rw [if_neg hk1, List.append_nil] at htk
          (repeat' ((conv => whnf) <;> first | (show idxK _ _ _ _ _; refine idx_of la j hla rfl hlt1 ?_) | (show roAggK _ _ _ _; (refine roAgg_row (fun R w' h => by rw [← hla]; exact rowsA_in h.1.2) _ hrow rfl ?_)) | (show @cmpK _ _ _; refine cmp_no hk1 ?_) | (show Wp _ _ _ _ _ _ _; refine Wp.go tabOk rfl ?_) | (show @cmpK _ _ _; (first | refine cmpY ?_ | refine cmpN ?_ | (refine cmp_both ?_ ?_ <;> intro _))) | (show wrapK _ _ _; refine wrapA ?_) | (show leK _ _ _; refine leA ?_) | (show roomK _ _ _; refine roomA ?_) | (show ltK _ _ _; refine ltA ?_) | (show _ ∧ _; refine ⟨?_, ?_⟩) | (show keepK _ _ _ _ _; refine keepA ?_) | refine own_keep ?_ | refine ap_old ?_))
          all_goals (conv => whnf)
          all_goals exact ⟨(j + 1, acc), [], ⟨hlt1, htk.symm⟩, by simp only; omega, rfl, ⟨rfl, rfl, rfl, rfl, rfl, rfl, rfl, rfl, trivial⟩, ⟨(by repeat (first | exact List.mem_cons_self | apply List.mem_cons_of_mem)), (by repeat (first | exact List.mem_cons_self | apply List.mem_cons_of_mem)), (by repeat (first | exact List.mem_cons_self | apply List.mem_cons_of_mem)), (by repeat (first | exact List.mem_cons_self | apply List.mem_cons_of_mem)), trivial⟩, fun R w' h => h⟩
      obtain rfl : j = l.length := by omega
      rw [List.take_of_length_le (Nat.le_refl _)] at hacc
      have haf : acc.length ≤ 8 := by rw [hacc]; exact Nat.le_trans (List.length_filter_le _ _) h8
      (repeat' ((conv => whnf) <;> first | (show Wp _ _ _ _ _ _ _; refine Wp.go tabOk rfl ?_) | (show @cmpK _ _ _; (first | refine cmpY ?_ | refine cmpN ?_ | (refine cmp_both ?_ ?_ <;> intro _))) | (show wrapK _ _ _; refine wrapA ?_) | (show leK _ _ _; refine leA ?_) | (show roomK _ _ _; refine roomA ?_) | (show ltK _ _ _; refine ltA ?_) | (show _ ∧ _; refine ⟨?_, ?_⟩) | (show keepK _ _ _ _ _; refine keepA ?_) | refine own_keep ?_ | refine ap_old ?_))
      refine Wp.loop (σ := Nat × List NodeV) 7 (fun ⟨j, ac2⟩ => [(1, .c d.val), (5, .lp 2 0 0 0), (6, .lp 4 0 0 0), (10, .os 5 acc.length), (11, .os 6 ac2.length), (77, .c (.slice base lt.length cap)), (78, .c (.int .i64 lt.length)), (79, .c (.int .i64 j))])
        (fun ⟨j, ac2⟩ => [(6, .rows (nodeRows ac2) 9 38), (5, .rows (nodeRows acc) 9 38), (4, .box [.c (.slice base lt.length cap), .c (.int .i64 X.2)] 26), (3, .ext (dataO (partsL lt) true)), (2, .box [.c (.slice l1.base l.length l1.cap), .c (.int .i64 out)] 26)])
        (fun _ => (((baseA w).and ((nodesD l).past w.heap.size)).and ((rowsA l1.base 9 (nodeRows l)).past w.heap.size)).and ((rowsA base 9 (nodeRows lt)).past w.heap.size)) (fun ⟨j, ac2⟩ => j ≤ lt.length ∧ ac2 = (lt.take j).filter (fun n => decide (n.kind = 1))) (fun s => lt.length - s.1) (0, []) [(6, none)] (by decide) (fun s => ⟨rfl, rfl⟩)
        ⟨Nat.zero_le _, rfl⟩ ⟨rfl, ⟨rfl, rfl, rfl, rfl, rfl, rfl, rfl, rfl, trivial⟩, ⟨rfl, (by repeat (first | exact List.mem_cons_self | apply List.mem_cons_of_mem)), (by repeat (first | exact List.mem_cons_self | apply List.mem_cons_of_mem)), (by repeat (first | exact List.mem_cons_self | apply List.mem_cons_of_mem)), (by repeat (first | exact List.mem_cons_self | apply List.mem_cons_of_mem)), trivial⟩, fun R w' h => h⟩ ?_
      rintro ⟨j, ac2⟩ ⟨hj, hacc2⟩
      by_cases hlt1 : j < lt.length
      · refine Wp.know (p := ∃ a, base = some a) (fun ρ w' hw => holds_of_abs hw fun R h => base_some (j := j) (rowsA_in h.2) (by rw [nodeRows_length]; exact hlt1)) ?_
        rintro ⟨la, hla⟩
        have hrow := nodeRows_get hlt1
        have hal : ac2.length ≤ j := by rw [hacc2]; refine Nat.le_trans (List.length_filter_le _ _) ?_; rw [List.length_take]; omega
        have htk : (lt.take (j + 1)).filter (fun n => decide (n.kind = 1)) = ac2 ++ (if lt[j].kind = 1 then [lt[j]] else []) := by
          rw [List.take_add_one, List.getElem?_eq_getElem hlt1, List.filter_append, ← hacc2]
          congr 1
          by_cases h1 : lt[j].kind = 1
          · rw [if_pos h1]; simp [h1]
          · rw [if_neg h1]; simp [h1]
        generalize lt[j] = n at *
        by_cases hk1 : n.kind = 1
        · rw [if_pos hk1] at htk
          (repeat' ((conv => whnf) <;> first | (show idxK _ _ _ _ _; refine idx_of la j hla rfl hlt1 ?_) | (show roAggK _ _ _ _; (refine roAgg_row (fun R w' h => by rw [← hla]; exact rowsA_in h.2) _ hrow rfl ?_)) | (show @cmpK _ _ _; refine cmp_yes hk1 ?_) | (show leK _ _ _; (first | refine le_of (Nat.zero_le _) ?_ | refine le_of (by rw [nodeRows_length]; exact Nat.le_refl _) ?_)) | (show roomK _ _ _; (refine room_of (by show (ac2.length + 1) * 120 ≤ 140737488355328; omega) ?_)) | (show ownK _ ((_, .rows (List.take ac2.length _ ++ _) _ _) :: _) _ _ _; refine own_eq (ys := nodeRows (ac2 ++ [n])) (m := (ac2 ++ [n]).length) ?_ (nodes_snoc ac2 n) (by show ac2.length + 1 = _; rw [List.length_append]; rfl)) | (show Wp _ _ _ _ _ _ _; refine Wp.go tabOk rfl ?_) | (show @cmpK _ _ _; (first | refine cmpY ?_ | refine cmpN ?_ | (refine cmp_both ?_ ?_ <;> intro _))) | (show wrapK _ _ _; refine wrapA ?_) | (show leK _ _ _; refine leA ?_) | (show roomK _ _ _; refine roomA ?_) | (show ltK _ _ _; refine ltA ?_) | (show _ ∧ _; refine ⟨?_, ?_⟩) | (show keepK _ _ _ _ _; refine keepA ?_) | refine own_keep ?_ | refine ap_old ?_))
          all_goals (conv => whnf)
          all_goals exact ⟨(j + 1, ac2 ++ [n]), [(6, some 9)], ⟨hlt1, htk.symm⟩, by simp only; omega, rfl, ⟨rfl, rfl, rfl, rfl, rfl, rfl, rfl, rfl, trivial⟩, ⟨(by repeat (first | exact List.mem_cons_self | apply List.mem_cons_of_mem)), (by repeat (first | exact List.mem_cons_self | apply List.mem_cons_of_mem)), (by repeat (first | exact List.mem_cons_self | apply List.mem_cons_of_mem)), (by repeat (first | exact List.mem_cons_self | apply List.mem_cons_of_mem)), (by repeat (first | exact List.mem_cons_self | apply List.mem_cons_of_mem)), trivial⟩, fun R w' h => h⟩
        · rw [if_neg hk1, List.append_nil] at htk
          (repeat' ((conv => whnf) <;> first | (show idxK _ _ _ _ _; refine idx_of la j hla rfl hlt1 ?_) | (show roAggK _ _ _ _; (refine roAgg_row (fun R w' h => by rw [← hla]; exact rowsA_in h.2) _ hrow rfl ?_)) | (show @cmpK _ _ _; refine cmp_no hk1 ?_) | (show Wp _ _ _ _ _ _ _; refine Wp.go tabOk rfl ?_) | (show @cmpK _ _ _; (first | refine cmpY ?_ | refine cmpN ?_ | (refine cmp_both ?_ ?_ <;> intro _))) | (show wrapK _ _ _; refine wrapA ?_) | (show leK _ _ _; refine leA ?_) | (show roomK _ _ _; refine roomA ?_) | (show ltK _ _ _; refine ltA ?_) | (show _ ∧ _; refine ⟨?_, ?_⟩) | (show keepK _ _ _ _ _; refine keepA ?_) | refine own_keep ?_ | refine ap_old ?_))
          all_goals (conv => whnf)
          all_goals exact ⟨(j + 1, ac2), [], ⟨hlt1, htk.symm⟩, by simp only; omega, rfl, ⟨rfl, rfl, rfl, rfl, rfl, rfl, rfl, rfl, trivial⟩, ⟨(by repeat (first | exact List.mem_cons_self | apply List.mem_cons_of_mem)), (by repeat (first | exact List.mem_cons_self | apply List.mem_cons_of_mem)), (by repeat (first | exact List.mem_cons_self | apply List.mem_cons_of_mem)), (by repeat (first | exact List.mem_cons_self | apply List.mem_cons_of_mem)), (by repeat (first | exact List.mem_cons_self | apply List.mem_cons_of_mem)), trivial⟩, fun R w' h => h⟩
      obtain rfl : j = lt.length := by omega
      rw [List.take_of_length_le (Nat.le_refl _)] at hacc2
      have hins : ac2.map NodeV.pl = acc.map NodeV.pl := by rw [hacc, hacc2]; exact hinsE lt he hlt
      have hln : ac2.length = acc.length := by simpa using congrArg List.length hins
      (repeat' ((conv => whnf) <;> first | (show @cmpK _ _ _; (first | refine cmpY ?_ | refine cmpN ?_ | (refine cmp_both ?_ ?_ <;> intro _))) | (show wrapK _ _ _; refine wrapA ?_) | (show leK _ _ _; refine leA ?_) | (show roomK _ _ _; refine roomA ?_) | (show ltK _ _ _; refine ltA ?_) | (show _ ∧ _; refine ⟨?_, ?_⟩) | (show keepK _ _ _ _ _; refine keepA ?_) | refine own_keep ?_ | refine ap_old ?_))
      all_goals (conv => whnf)
      refine Wp.freezeN 5 w.heap.size (k := 9) (xs := nodeRows acc) (T := 38) (by repeat (first | exact List.mem_cons_self | apply List.mem_cons_of_mem)) (fun R w' h b hb => (h.1.1.1 b hb).1) (fun fa hfa => ?_)
      refine Wp.freezeN 6 w.heap.size (k := 9) (xs := nodeRows ac2) (T := 38) (by repeat (first | exact List.mem_cons_self | apply List.mem_cons_of_mem)) (fun R w' h b hb => (h.1.1.1.1 b hb).1) (fun fb hfb => ?_)
      (repeat' ((conv => whnf) <;> first | (show Wp _ _ _ _ _ _ _; refine Wp.go tabOk rfl ?_) | (show @cmpK _ _ _; (first | refine cmpY ?_ | refine cmpN ?_ | (refine cmp_both ?_ ?_ <;> intro _))) | (show wrapK _ _ _; refine wrapA ?_) | (show leK _ _ _; refine leA ?_) | (show roomK _ _ _; refine roomA ?_) | (show ltK _ _ _; refine ltA ?_) | (show _ ∧ _; refine ⟨?_, ?_⟩) | (show keepK _ _ _ _ _; refine keepA ?_) | refine own_keep ?_ | refine ap_old ?_))
      conv => whnf
      refine call_pure (f := 24) Try.call24 (.bool true) (fun ρ w' hw => sameGraph_eq w' ⟨fa.base, fa.cap, acc, 0⟩ ⟨fb.base, fb.cap, ac2, 0⟩ ⟨holds_of_abs hw fun R h => rowsA_in h.1.2, fun n hn => holds_of_abs hw fun R h => (hgok h.1.1.1).each n (List.mem_filter.1 (hacc ▸ hn)).1, by show acc.length ≤ _; omega⟩ ⟨holds_of_abs hw fun R h => rowsA_in h.2, fun n hn => (tidied_fit (cap := cap) (out := 0) hw (by repeat (first | exact List.mem_cons_self | apply List.mem_cons_of_mem)) (fun R w' h => rowsA_in h.1.1.2) hko (by omega)).each n (List.mem_filter.1 (hacc2 ▸ hn)).1, by show ac2.length ≤ _; omega⟩ hins.symm rfl) ?_
      (repeat' ((conv => whnf) <;> first | (show Wp _ _ _ _ _ _ _; refine Wp.go tabOk rfl ?_) | (show @cmpK _ _ _; (first | refine cmpY ?_ | refine cmpN ?_ | (refine cmp_both ?_ ?_ <;> intro _))) | (show wrapK _ _ _; refine wrapA ?_) | (show leK _ _ _; refine leA ?_) | (show roomK _ _ _; refine roomA ?_) | (show ltK _ _ _; refine ltA ?_) | (show _ ∧ _; refine ⟨?_, ?_⟩) | (show keepK _ _ _ _ _; refine keepA ?_) | refine own_keep ?_ | refine ap_old ?_))
      refine call_inputs (f := 17) d 0 l1.base l1.cap l out (by repeat (first | exact List.mem_cons_self | apply List.mem_cons_of_mem)) Try.call17 (by omega) hd.fits (Nat.zero_le _) (fun R w' h => base_bytes hd h.1.1.1.1.1) (by omega) (fun R w' h => (rowsA _ _ _).mono h.1.1.1.2 (fun b hb => hb.1)) (fun R w' h => (nodesD l).mono h.1.1.1.1.2 (fun b hb => hb.1)) (made_read hml (by omega)) (fun w' b htk hr hnd => inputs_any w' b d 0 htk l1.base l1.cap l out (by omega) hr hnd (made_read hml (by omega))) (fun x k2 hx => ?_)
      obtain ⟨vals, hv, _⟩ := vals_good (g := ⟨l1.base, l1.cap, l, out⟩) (by rw [hsp1]; exact he) hx.good
      rw [hvq] at hv
      have hrun1 : runH ⟨l1.base, l1.cap, l, out⟩ (x.l.map IntsV.xs) = (0, vals.getD out.toNat []) := by
        unfold runH
        rw [hsp1, if_neg (by omega), hvq, hv]
        rfl
      obtain ⟨rsh, rsp, htl⟩ := htells he _ _ hv
      obtain ⟨_, _, hrun2⟩ := htl ⟨base, cap, lt, X.2⟩ hlt rfl
      have hrun2 : runH ⟨base, cap, lt, X.2⟩ (x.l.map IntsV.xs) = (0, vals.getD out.toNat []) := hrun2
      clear htells htl hv hinsE hfew
      generalize vals.getD out.toNat [] = V at *
      (repeat' ((conv => whnf) <;> first | (show Wp _ _ _ _ _ _ _; refine Wp.go tabOk rfl ?_) | (show @cmpK _ _ _; (first | refine cmpY ?_ | refine cmpN ?_ | (refine cmp_both ?_ ?_ <;> intro _))) | (show wrapK _ _ _; refine wrapA ?_) | (show leK _ _ _; refine leA ?_) | (show roomK _ _ _; refine roomA ?_) | (show ltK _ _ _; refine ltA ?_) | (show _ ∧ _; refine ⟨?_, ?_⟩) | (show keepK _ _ _ _ _; refine keepA ?_) | refine own_keep ?_ | refine ap_old ?_))
      refine call_run (f := 18) (0, V) Try.call18 (fun ρ w' hw => by
        have hok : InV.ok w' x := holds_of_abs hw fun R h => ⟨rowsA_in h.2.1, fun z hz => intsA_ok (hx.sane z hz) (h.2.2 z hz), hx.room, by have := hx.few; omega⟩
        have := run_all w' ⟨l1.base, l1.cap, l, out⟩ (holds_of_abs hw fun R h => hgok h.1.1.1.1) x hok
        rw [hrun1] at this
        exact this) (fun hne => absurd rfl hne) (fun _ y hy hys => ?_)
      (repeat' ((conv => whnf) <;> first | (show Wp _ _ _ _ _ _ _; refine Wp.go tabOk rfl ?_) | (show @cmpK _ _ _; (first | refine cmpY ?_ | refine cmpN ?_ | (refine cmp_both ?_ ?_ <;> intro _))) | (show wrapK _ _ _; refine wrapA ?_) | (show leK _ _ _; refine leA ?_) | (show roomK _ _ _; refine roomA ?_) | (show ltK _ _ _; refine ltA ?_) | (show _ ∧ _; refine ⟨?_, ?_⟩) | (show keepK _ _ _ _ _; refine keepA ?_) | refine own_keep ?_ | refine ap_old ?_))
      refine call_run (f := 18) (0, V) Try.call18 (fun ρ w' hw => by
        have hok : InV.ok w' x := holds_of_abs hw fun R h => ⟨rowsA_in h.1.2.1, fun z hz => intsA_ok (hx.sane z hz) (h.1.2.2 z hz), hx.room, by have := hx.few; omega⟩
        have := run_all w' ⟨base, cap, lt, X.2⟩ ⟨holds_of_abs hw fun R h => rowsA_in h.1.1.1.1.2, (tidied_fit (cap := cap) (out := X.2) hw (by repeat (first | exact List.mem_cons_self | apply List.mem_cons_of_mem)) (fun R w' h => rowsA_in h.1.1.1.1.2) hko (by omega)).each, fun n hn => (hko n hn).2, by show lt.length ≤ _; omega, (show i64 (X.2 : Int) by unfold i64; omega)⟩ x hok
        rw [hrun2] at this
        exact this) (fun hne => absurd rfl hne) (fun _ z hz hzs => ?_)
      have hyz : y.xs = z.xs := hy.trans hz.symm
      (repeat' ((conv => whnf) <;> first | (show @cmpK _ _ _; refine cmp_yes rfl ?_) | (show callQ _ 26 _ _ _ _ _; (refine callQ_of (f := 26) Try.call26 (.bool true) (fun ρ w' hw => by have := same_any w' y z (holds_of_abs hw fun R h => intsA_ok hys h.1.2) (holds_of_abs hw fun R h => intsA_ok hzs h.2); rw [decide_eq_true hyz] at this; exact this) ?_)) | (show callK _ 26 _ _ _ _ _; (refine call_pure (f := 26) Try.call26 (.bool true) (fun ρ w' hw => by have := same_any w' y z (holds_of_abs hw fun R h => intsA_ok hys h.1.2) (holds_of_abs hw fun R h => intsA_ok hzs h.2); rw [decide_eq_true hyz] at this; exact this) ?_)) | (show Wp _ _ _ _ _ _ _; refine Wp.go tabOk rfl ?_) | (show @cmpK _ _ _; (first | refine cmpY ?_ | refine cmpN ?_ | (refine cmp_both ?_ ?_ <;> intro _))) | (show wrapK _ _ _; refine wrapA ?_) | (show leK _ _ _; refine leA ?_) | (show roomK _ _ _; refine roomA ?_) | (show ltK _ _ _; refine ltA ?_) | (show _ ∧ _; refine ⟨?_, ?_⟩) | (show keepK _ _ _ _ _; refine keepA ?_) | refine own_keep ?_ | refine ap_old ?_))
      all_goals (conv => whnf)
      all_goals exact ends_bool (fun _ _ h => h.1.1.1.1.1.1.1.1) rfl rfl
    · refine call_tidyW (spansQ sh l []).1 X Try.call22 (fun ρ w' hw => htd w' (holds_of_abs hw fun R h => hgok h)) (fun _ => ?_) (fun h => absurd h he)
      (repeat' ((conv => whnf) <;> first | (show Wp _ _ _ _ _ _ _; refine Wp.go tabOk rfl ?_) | (show @cmpK _ _ _; (first | refine cmpY ?_ | refine cmpN ?_ | (refine cmp_both ?_ ?_ <;> intro _))) | (show wrapK _ _ _; refine wrapA ?_) | (show leK _ _ _; refine leA ?_) | (show roomK _ _ _; refine roomA ?_) | (show ltK _ _ _; refine ltA ?_) | (show _ ∧ _; refine ⟨?_, ?_⟩) | (show keepK _ _ _ _ _; refine keepA ?_) | refine own_keep ?_ | refine ap_old ?_))
      refine call_spans (f := 25) (spansQ sh l []) Try.call25 (fun ρ w' hw => by have := spans_all w' ⟨l1.base, l1.cap, l, out⟩ (holds_of_abs hw fun R h => hgok h); rw [hsp1] at this; exact this) (fun _ => ?_) (fun h _ _ => absurd h he)
      (repeat' ((conv => whnf) <;> first | (show @cmpK _ _ _; refine cmp_no (fun h => h rfl) ?_) | (show Wp _ _ _ _ _ _ _; refine Wp.go tabOk rfl ?_) | (show @cmpK _ _ _; (first | refine cmpY ?_ | refine cmpN ?_ | (refine cmp_both ?_ ?_ <;> intro _))) | (show wrapK _ _ _; refine wrapA ?_) | (show leK _ _ _; refine leA ?_) | (show roomK _ _ _; refine roomA ?_) | (show ltK _ _ _; refine ltA ?_) | (show _ ∧ _; refine ⟨?_, ?_⟩) | (show keepK _ _ _ _ _; refine keepA ?_) | refine own_keep ?_ | refine ap_old ?_))
      all_goals (conv => whnf)
      all_goals exact ends_bool (fun _ _ h => h.1.1) rfl rfl
  · refine calls_of tab tabOk Try.func5 rfl rfl rfl [] (fun _ => ⟨none, 0⟩) [.c t.val, .c d.val] [] (baseA w) 0 rfl rfl (by show 2 ≤ _; decide) (abs_base w) ?_
    (repeat' ((conv => whnf) <;> first | (show callK _ 19 _ _ _ _ _; refine call_pure (f := 19) Try.call19 (.bool true) (fun ρ w' hw => fixed18_any w') ?_) | (show Wp _ _ _ _ _ _ _; refine Wp.go tabOk rfl ?_) | (show @cmpK _ _ _; (first | refine cmpY ?_ | refine cmpN ?_ | (refine cmp_both ?_ ?_ <;> intro _))) | (show wrapK _ _ _; refine wrapA ?_) | (show leK _ _ _; refine leA ?_) | (show roomK _ _ _; refine roomA ?_) | (show ltK _ _ _; refine ltA ?_) | (show _ ∧ _; refine ⟨?_, ?_⟩) | (show keepK _ _ _ _ _; refine keepA ?_) | refine own_keep ?_ | refine ap_old ?_))
    all_goals (conv => whnf)
    all_goals first | exact ends_bool (fun _ _ h => h) rfl rfl | (exfalso; omega)
end Go.Proofs.Ytdmkdogakbipbaa

