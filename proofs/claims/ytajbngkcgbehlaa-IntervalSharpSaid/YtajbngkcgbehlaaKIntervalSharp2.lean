import Derived.ProofKit
import Derived.OpenShut
import Derived.Deep.Slices
import Derived.LoopN
import Derived.Test.YtajbngkcgbehlaaKIntervalSharp1
/- SxU -/
namespace Go.SX
open Go.RowKit

/-! ### Integers in rows -/
def ints (xs : List Int) : List (List Value) := xs.map fun x => [.int .i64 x]
theorem ints_length (xs : List Int) : (ints xs).length = xs.length := by simp [ints]
theorem ints_get {xs : List Int} {k : Nat} (h : k < xs.length) : (ints xs)[k]? = some [.int .i64 xs[k]] := by simp [ints, h]
theorem ints_row {xs : List Int} : ∀ r ∈ ints xs, r.length = 1 ∧ ∀ v ∈ r, v.oneCell' = true := by
  intro r hr
  simp only [ints, List.mem_map] at hr
  obtain ⟨x, _, rfl⟩ := hr
  exact ⟨rfl, fun v hv => by simp at hv; subst hv; rfl⟩

theorem cell_block {w : World} {a : Addr} {v : Value} (h : w.cell? a = some v) : a.block < w.heap.size := by
  unfold World.cell? at h
  split at h
  · rename_i c _ _ hb; exact lt_size_of_some hb
  · cases h
theorem cell_same {w w' : World} {a : Addr} (h : w'.heap[a.block]? = w.heap[a.block]?) : w'.cell? a = w.cell? a := by
  unfold World.cell?; rw [h]
theorem rows_base {w w' : World} {R : Nat → Prop} {base : Option Addr} {k : Nat} {xs : List (List Value)} (hb : (baseA w).holds R w') (h : RowsI w base k xs) : RowsI w' base k xs := by
  rcases h with h | ⟨a, ha, h⟩
  · exact .inl h
  · refine .inr ⟨a, ha, fun i r hi j v hj => ?_⟩
    have := h i r hi j v hj
    rw [cell_same (hb _ (cell_block this)).2]; exact this
theorem rows_ext {w w' : World} {base : Option Addr} {k : Nat} {xs : List (List Value)} (he : Ext w w') (h : RowsI w base k xs) : RowsI w' base k xs := by
  rcases h with h | ⟨a, ha, h⟩
  · exact .inl h
  · refine .inr ⟨a, ha, fun i r hi j v hj => ?_⟩
    have := h i r hi j v hj
    rw [cell_same (he.block _ (cell_block this))]; exact this
theorem rows_cons {a : Addr} {w : World} {k j : Nat} {xs : List (List Value)} (hj : j < xs.length) {base : Option Addr} (h : RowsI w base k xs) (ha : base = some a) : RowsI w (some a) k xs := by subst ha; exact h
end Go.SX
/- SxV -/
namespace Go.SX
open Go.RowKit

theorem call_bool {cx : Cx} {f : FuncId} {args : List SV} {H : Heap} {S : Asn} {nx : Nat} {K : SV → Heap → Asn → Nat → Prop} (hf : ∀ as w, (callFunc f as).run cx.P w = .ok (.enter f as) w) (b : Bool)
    (hc : ∀ ρ w, Abs cx.B ρ nx H S w → Calls cx.P f (SV.rfs ρ args).toArray w (fun e w' => e = .returned (.bool b) ∧ Ext w w')) (h1 : b = true → K (.c (.bool true)) H S nx) (h2 : b = false → K (.c (.bool false)) H S nx) : callK cx f args H S nx K := by
  cases b with
  | true => exact call_pure hf _ hc (h1 rfl)
  | false => exact call_pure hf _ hc (h2 rfl)
theorem callQ_bool {cx : Cx} {f : FuncId} {args : List SV} {H : Heap} {S : Asn} {nx : Nat} {K : SV → Prop} (hf : ∀ as w, (callFunc f as).run cx.P w = .ok (.enter f as) w) (b : Bool)
    (hc : ∀ ρ w, Abs cx.B ρ nx H S w → Calls cx.P f (SV.rfs ρ args).toArray w (fun e w' => e = .returned (.bool b) ∧ Ext w w')) (h1 : b = true → K (.c (.bool true))) (h2 : b = false → K (.c (.bool false))) : callQ cx f args H S nx K := by
  cases b with
  | true => exact callQ_of hf _ hc (h1 rfl)
  | false => exact callQ_of hf _ hc (h2 rfl)

/-- a slice held against nil -/
theorem slice_nil_eql {P : Program} {t : TypeId} {ti : TI} (h : mkTI P t = some ti) (hk : ti.kind = 1) {ox oy : Operand} {base : Option Addr} {len cap : Nat} {K : SV → Prop} (hK : K (.c (.bool base.isNone))) :
    pureK P (do eqGuard .eql t ox oy (.slice base len cap) (.slice none 0 0); binOp .eql t (.slice base len cap) (.slice none 0 0)) K := by
  rw [pureK_def]
  obtain ⟨i, d, z, hi, hd, hz, rfl⟩ := mkTI_spec h
  simp only at hk
  have hs : ∃ e, d = .slice e := by cases d <;> first | exact ⟨_, rfl⟩ | (simp [kindOf] at hk)
  obtain ⟨e, rfl⟩ := hs
  refine ⟨.bool base.isNone, fun w => ?_, hK⟩
  have h1 : (eqGuard .eql t ox oy (.slice base len cap) (.slice none 0 0)).run P w = .ok () w := by unfold eqGuard; simp
  have h2 : (Op.equal t (.slice base len cap) (.slice none 0 0)).run P w = .ok base.isNone w := by
    unfold Op.equal
    rw [show Op.maxDepth = Nat.succ 9999 from rfl]
    unfold Op.equalIn
    simp only [Sem.run_bind, run_underlying hd, Result.andThen_ok]
    cases base <;> rfl
  simp only [Sem.run_bind, h1, Result.andThen_ok, binOp, h2, Sem.run_pure]

theorem newRows_data {w w' : World} {v : Value} {k : Nat} {T : TypeId} {xs : List (List Value)} (h : NewRows w w' v k T xs) : (rowsV v k xs).holds (fun b => w.heap.size ≤ b ∧ b < w'.heap.size) w' := by
  obtain ⟨l, rfl, F, hF, hr, hcap, hent⟩ := h
  refine ⟨l.base, l.cap, rfl, hr, ?_⟩
  rcases hent with ⟨h1, h2, _⟩ | ⟨b, off, c, h1, h2, h3, h4, h5⟩
  · exact .inl (List.eq_nil_of_length_eq_zero (by omega))
  · refine .inr ⟨b, off, h1, ⟨hF b ((h2 b).2 rfl), lt_size_of_some h3⟩, fun i r hi j v hj => ?_⟩
    have := h5 i r hi j v hj
    rw [← Nat.add_assoc]
    simpa [World.cell?, h3] using this
theorem Asn.mono (S : Asn) {R R' : Nat → Prop} {w : World} (h : S.holds R w) (hR : ∀ b, R b → R' b) : S.holds R' w := S.stable hR (fun _ _ => rfl) h

/-- rows at hand: one's own slice as a caller sees it -/
theorem rows_of_abs {B : Base} {ρ : Nat → Loc} {nx : Nat} {H : Heap} {S : Asn} {w : World} {i : Nat} {xs : List (List Value)} {k : Nat} {T : TypeId} (h : Abs B ρ nx H S w) (he : (i, Ent.rows xs k T) ∈ H) : RowsI w (ρ i).base k xs := by
  obtain ⟨R, φ, h⟩ := h
  obtain ⟨hr, hcap, hent⟩ := h.ent _ he
  simp only at hcap hent
  rcases hent with ⟨h1, h2, _⟩ | ⟨b, off, c, h1, h2, h3, h4, h5⟩
  · exact .inl (List.eq_nil_of_length_eq_zero (by omega))
  · refine .inr ⟨_, h1, fun m r hm j v hj => ?_⟩
    have := h5 m r hm j v hj
    rw [add_none, ← Nat.add_assoc]
    simpa [World.cell?, h3] using this
theorem holds_of_abs {B : Base} {ρ : Nat → Loc} {nx : Nat} {H : Heap} {S : Asn} {w : World} {p : Prop} (h : Abs B ρ nx H S w) (hp : ∀ R, S.holds R w → p) : p := by
  obtain ⟨R, φ, h⟩ := h; exact hp R h.asn
theorem rowsV_in {v : Value} {k : Nat} {xs : List (List Value)} {R : Nat → Prop} {w : World} (h : (rowsV v k xs).holds R w) : ∃ base cap, v = .slice base xs.length cap ∧ RowsI w base k xs := by
  obtain ⟨base, cap, h1, h2⟩ := h
  exact ⟨base, cap, h1, rowsA_in h2⟩
end Go.SX
/- SxW -/
namespace Go.SX
open Go.RowKit Go.ChangeShapes Go.WideShapes Go.Deep

/-! ### Arguments: from the reading to what the walk asks -/
section
variable {P : Program} {w : World}

/-- whatever is read of this type has cells of this form -/
structure Opens (P : Program) (w : World) (t : TypeId) (Q : List Value → Prop) : Prop where
  out : ∀ {H : Type} (enc : TypeId × Value → H) (base : Nat) (sp : Nat → Bool) (held : Bool) (n : Nat) (cs : List Value) (x : DataW H × List MemPlace), DataW.trod enc P w base sp held n t cs = some x → Q cs

theorem Opens.mono {t : TypeId} {Q Q' : List Value → Prop} (h : Opens P w t Q) (hq : ∀ cs, Q cs → Q' cs) : Opens P w t Q' :=
  ⟨fun enc base sp held n cs x hx => hq cs (h.out enc base sp held n cs x hx)⟩

theorem opens_int {t : TypeId} {k : IntKind} (ht : P.underlying t = some (.int k)) : Opens P w t fun cs => ∃ i, (Lit.int k i).wf = true ∧ cs = [.int k i] := by
  constructor
  intro H enc base sp held n cs x h
  obtain ⟨i, h1, _, h2⟩ := DataW.trod_int ht h
  exact ⟨i, h2, h1⟩

theorem opens_bool {t : TypeId} (ht : P.underlying t = some .bool) : Opens P w t fun cs => ∃ b, cs = [.bool b] := by
  constructor
  intro H enc base sp held n cs x h
  obtain ⟨b, h1, _⟩ := DataW.trod_bool ht h
  exact ⟨b, h1⟩

def SliceQ (w : World) (k : Nat) (Q : List Value → Prop) (cs : List Value) : Prop :=
  ∃ (base : Option Addr) (cap : Nat) (xs : List (List Value)), cs = [.slice base xs.length cap] ∧ RowsI w base k xs ∧ (∀ r ∈ xs, r.length = k ∧ Q r) ∧ xs.length ≤ cap ∧ cap ≤ maxLen ∧ (base = none → cap = 0)

theorem cells?_get {w : World} {base : Nat} {a : Addr} {n : Nat} {cs : List Value} (h : w.cells? base a n = some cs) : cs.length = n ∧ ∀ j v, cs[j]? = some v → w.cell? (a.add j) = some v := by
  obtain ⟨_, hl, hc⟩ := World.cells?_some h
  refine ⟨hl, fun j v hv => ?_⟩
  have hj : j < n := by rw [← hl]; exact (List.getElem?_eq_some_iff.1 hv).1
  rw [← hv]
  exact hc j hj

theorem opens_slice {t e : TypeId} {k : Nat} {Q : List Value → Prop} (ht : P.underlying t = some (.slice e)) (hc : P.cellsOf e = k) (he : Opens P w e Q) : Opens P w t (SliceQ w k Q) := by
  constructor
  intro H enc base sp held n cs x h
  rcases open_slice ht h with ⟨rfl, _⟩ | ⟨a, len, cap, m, n', D, Pl, rfl, _, hl, hm, hmm, _, hx⟩
  · exact ⟨none, 0, [], rfl, .inl rfl, fun r hr => by simp at hr, Nat.le_refl _, Nat.zero_le _, fun _ => rfl⟩
  · have hlm : len ≤ m := by rw [hmm]; split <;> omega
    obtain ⟨f, hf⟩ := choose_lt (α := List Value) (n := len) (p := fun i r => w.cells? base (a.add (i * k)) k = some r ∧ Q r) (fun i hi => by
      obtain ⟨cs', h1, h2⟩ := hx i (by omega)
      rw [hc] at h1
      exact ⟨cs', h1, he.out enc base sp held n' cs' _ h2⟩)
    refine ⟨some a, cap, (List.range len).map f, by simp, .inr ⟨a, rfl, fun i r hr j v hv => ?_⟩, fun r hr => ?_, by simpa using hl, hm, fun h0 => by cases h0⟩
    · have hi : i < len := by have := (List.getElem?_eq_some_iff.1 hr).1; simpa using this
      rw [List.getElem?_map, List.getElem?_range hi] at hr
      simp only [Option.map_some, Option.some.injEq] at hr
      subst hr
      have := (cells?_get (hf i hi).1).2 j v hv
      rwa [Deep.add_add] at this
    · simp only [List.mem_map, List.mem_range] at hr
      obtain ⟨i, hi, rfl⟩ := hr
      exact ⟨(cells?_get (hf i hi).1).1, (hf i hi).2⟩

/-- the fields: offset, number of cells, form -/
theorem opens_struct {t : TypeId} {fs : Array Field} {k : Nat} {Q : Field → List Value → Prop} (ht : P.underlying t = some (.struct fs)) (hk : P.cellsOf t = k) (hf : ∀ f ∈ fs, Opens P w f.type (Q f)) :
    Opens P w t fun cs => cs.length = k ∧ ∀ f ∈ fs, Q f ((cs.drop f.offset).take (P.cellsOf f.type)) := by
  constructor
  intro H enc base sp held n cs x h
  obtain ⟨xs, n', _, _, hl, hlen, hx⟩ := DataW.trod_struct ht h
  refine ⟨hl.trans hk, fun f hfm => ?_⟩
  obtain ⟨i, hi, rfl⟩ := Array.mem_iff_getElem.1 hfm
  have h1 := hx i fs[i] (by simp [hi])
  rw [List.getElem?_eq_getElem (by omega)] at h1
  exact (hf _ hfm).out enc base sp held n' _ _ h1

theorem list_map_of {α : Type} {f : α → List Value} {p : α → Prop} : ∀ {xs : List (List Value)}, (∀ r ∈ xs, ∃ a, p a ∧ r = f a) → ∃ l : List α, xs = l.map f ∧ ∀ a ∈ l, p a
  | [], _ => ⟨[], rfl, fun _ h => by simp at h⟩
  | r :: xs, h => by
    obtain ⟨a, ha, rfl⟩ := h r (by simp)
    obtain ⟨l, rfl, hl⟩ := list_map_of (xs := xs) fun r hr => h r (by simp [hr])
    exact ⟨a :: l, rfl, fun b hb => by rcases List.mem_cons.1 hb with rfl | hb; exact ha; exact hl b hb⟩

/-- a slice of ints -/
def IntsQ (w : World) (v : Value) (base : Option Addr) (cap : Nat) (xs : List Int) : Prop :=
  v = .slice base xs.length cap ∧ RowsI w base 1 (ints xs) ∧ (∀ x ∈ xs, (Lit.int .i64 x).wf = true) ∧ xs.length ≤ cap ∧ cap ≤ maxLen ∧ (base = none → cap = 0)

theorem opens_ints {t e : TypeId} (ht : P.underlying t = some (.slice e)) (he : P.underlying e = some (.int .i64)) (hc : P.cellsOf e = 1) : Opens P w t fun cs => ∃ v base cap xs, cs = [v] ∧ IntsQ w v base cap xs := by
  refine Opens.mono (opens_slice ht hc (opens_int he)) ?_
  rintro cs ⟨base, cap, xs, rfl, h1, h2, h3, h4, h5⟩
  obtain ⟨l, rfl, hl⟩ := list_map_of (f := fun i => [.int .i64 i]) (p := fun i => (Lit.int .i64 i).wf = true) fun r hr => (h2 r hr).2
  exact ⟨_, base, cap, l, by simp, rfl, h1, hl, by simpa using h3, h4, h5⟩

theorem cells_slice {v : Value} {b : Option Addr} {l c : Nat} {t e : TypeId} {r : Reach} {b0 : Nat} (ht : P.underlying t = some (.slice e)) (hv : Value.okWide P w r b0 t v) (h : v.cells.toList = [.slice b l c]) : v = .slice b l c := by
  obtain ⟨a, l', c', rfl⟩ := okWide_slice ht hv
  simpa [Value.cells] using h
theorem cells_int {v : Value} {k : IntKind} {i : Int} {t : TypeId} {r : Reach} {b0 : Nat} (ht : P.underlying t = some (.int k)) (hv : Value.okWide P w r b0 t v) (h : v.cells.toList = [.int k i]) : v = .int k i := by
  obtain ⟨n, rfl⟩ := okWide_int ht hv
  simpa [Value.cells] using h
theorem cells_agg {v : Value} {cs : List Value} {t : TypeId} {fs : Array Field} {r : Reach} {b0 : Nat} (ht : P.underlying t = some (.struct fs)) (hv : Value.okWide P w r b0 t v) (h : v.cells.toList = cs) : v = .agg cs.toArray := by
  simp only [Value.okWide, ht] at hv
  obtain ⟨c, rfl, _⟩ := hv
  simp only [Value.cells] at h
  rw [← h]
end

/-! ### The law's end -/
section
variable {H : Type} {enc : TypeId × Value → H} {P : Program}

theorem trodAll_stays (hl : laidOutB P = true) {W W' : World} (hE : Ext W W') {sp : Nat → Bool} : ∀ (ts : List TypeId) (vs : List Value) (ds : List (DataW H)) (ps : List MemPlace),
    (∀ t ∈ ts, P.readableRec t = true ∧ t < P.types.size) → DataW.TrodAll enc P W 0 (fun _ => true) true ts vs ds ps → (∀ p ∈ ps, p.block < W.heap.size) → (∀ p ∈ ps, sp p.block = true) → DataW.TrodAll enc P W' 0 sp true ts vs ds ps
  | [], [], [], ps, _, h, _, _ => h
  | t :: ts, v :: vs, d :: ds, ps, ht, h, hlt, hs => by
    obtain ⟨p, q, h1, h2, rfl⟩ := h
    refine ⟨p, q, ?_, trodAll_stays hl hE ts vs ds q (fun u hu => ht u (by simp [hu])) h2 (fun x hx => hlt x (by simp [hx])) (fun x hx => hs x (by simp [hx])), rfl⟩
    exact WideElems.Trod_stays hl (ht t (by simp)).1 (ht t (by simp)).2 h1 (fun x hx => hE.same (hlt x (by simp [hx]))) (fun x hx => hs x (by simp [hx]))
  | [], _ :: _, _, _, _, h, _, _ => by simp [DataW.TrodAll] at h
  | [], [], _ :: _, _, _, h, _, _ => by simp [DataW.TrodAll] at h
  | _ :: _, [], _, _, _, h, _, _ => by simp [DataW.TrodAll] at h
  | _ :: _, _ :: _, [], _, _, h, _, _ => by simp [DataW.TrodAll] at h

/-- 'true, and the arguments read as they did' -/
theorem law_post {f : Func} {s : ChangeSpec} {apart fresh handsOn again : Bool} {W W' : World} {args : Array Value} {ds gs : List (DataW H)} {before : List MemPlace} {t : TypeId}
    (hl : laidOutB P = true) (hr : (f.params.toList.all fun t => P.readableRec t && decide (t < P.types.size)) = true) (hvars : s.vars = []) (hres : f.resultTypes = #[t]) (ht : P.underlying t = some .bool)
    (hfn : s.fn H ds = { results := [.lit (.bool true)], args := ds })
    (hW : DataW.Whole enc P f.params.toList s.vars apart W args.toList ds gs before) (hE : Ext W W') : s.post enc P f apart fresh handsOn again W args (.bool true) W' := by
  have hlt := hW.lt
  obtain ⟨p, q, hA, hV, hpq, _⟩ := id hW
  rw [hvars] at hV
  obtain ⟨rfl, rfl⟩ := trodVars_none hV
  have hfn' : s.fn H (ds ++ []) = { results := [.lit (.bool true)], args := ds } := by rw [List.append_nil]; exact hfn
  have hall : ∀ t ∈ f.params.toList, P.readableRec t = true ∧ t < P.types.size := fun t ht => by simpa using List.all_eq_true.1 hr t ht
  rw [List.append_nil] at hpq
  subst hpq
  have hres' : ∀ b sp hd, DataW.TrodAll enc P W' b sp hd f.resultTypes.toList ((Value.bool true).resultList f.resultTypes.size) (s.fn H (ds ++ [])).results [] := by
    intro b sp hd
    rw [hfn', hres]
    exact trodAll_mk1 (shut_bool ht _)
  have hargs : ∀ sp : Nat → Bool, (∀ x ∈ before, sp x.block = true) → DataW.TrodAll enc P W' 0 sp true f.params.toList args.toList (s.fn H (ds ++ [])).args before := by
    intro sp hsp
    rw [hfn']
    exact trodAll_stays hl hE _ _ _ _ hall hA hlt hsp
  have hvs : ∀ sp : Nat → Bool, DataW.TrodVars enc P W' sp s.vars (s.fn H (ds ++ [])).vars [] := by
    intro sp
    rw [hfn', hvars]
    rfl
  refine ⟨ds, [], before, [], before, [], hW, hres' _ _ _, hargs _ (fun x hx => by simpa using hlt x hx), hvs _, hE.frame _, fun _ => ?_⟩
  refine ⟨ok_one hres rfl (okWide_bool_mk ht _), _, _, ([] ++ before) ++ [], ⟨[] ++ before, [], trodAll_append (hargs _ (fun _ _ => rfl)) (hres' _ _ _), hvs _, rfl, ?_, ?_⟩, ?_⟩
  · intro b off hp
    obtain ⟨_, _, _, _, _, hz, _⟩ := hW
    have hp' : MemPlace.cell b off ∈ before := by simpa using hp
    rw [hE.frozen (hlt _ hp')]
    exact hz b off hp'
  · intro ha
    obtain ⟨_, _, _, _, _, _, hn⟩ := hW
    simpa using hn ha
  · intro p hp _
    simpa using hp

/-- the law's contract from its walk -/
theorem law_contract {f : Func} {n : FuncId} {s : ChangeSpec} {apart fresh handsOn again : Bool} {W : World} {args : Array Value} {ds gs : List (DataW H)} {before : List MemPlace} {t : TypeId}
    (hl : laidOutB P = true) (hr : (f.params.toList.all fun t => P.readableRec t && decide (t < P.types.size)) = true) (hvars : s.vars = []) (hres : f.resultTypes = #[t]) (ht : P.underlying t = some .bool)
    (hfn : s.fn H ds = { results := [.lit (.bool true)], args := ds })
    (hW : DataW.Whole enc P f.params.toList s.vars apart W args.toList ds gs before)
    (hc : Calls P n args W fun e W' => e = .returned (.bool true) ∧ Ext W W') :
    Calls P n args W fun e W' => ∃ v, e = .returned v ∧ s.post enc P f apart fresh handsOn again W args v W' :=
  hc.mono fun _ _ ⟨he, hE⟩ => ⟨_, he, law_post hl hr hvars hres ht hfn hW hE⟩
end
end Go.SX
/- SxX -/
namespace Go.SX
open Go.RowKit

/-- so many rounds of a loop at the most -/
def RoundsK (cx : Cx) (body : Code) (K : Exit → Env → Heap → Asn → Nat → Prop) : Nat → Env → Heap → Asn → Nat → Prop
  | 0, _, _, _, _ => False
  | n + 1, env, H, S, nx => Wp cx body env H S nx (fun e env' H' S' nx' => match e with
      | .normal => RoundsK cx body K n env' H' S' nx'
      | e => K e env' H' S' nx')
theorem Wp.rounds {cx : Cx} {body : Code} {env : Env} {H : Heap} {S : Asn} {nx : Nat} {K : Exit → Env → Heap → Asn → Nat → Prop} (n : Nat) (h : RoundsK cx body K n env H S nx) : Wp cx (.loop body) env H S nx K := by
  refine ⟨fun ρ a w hs hw => wp_loop_rounds n ?_⟩
  have key : ∀ (n : Nat) {env : Env} {H : Heap} {S : Asn} {nx1 : Nat} {ρ1 : Nat → Loc} {a : Act} {w : World}, RoundsK cx body K n env H S nx1 → (∀ i, i < nx → ρ1 i = ρ i) → nx ≤ nx1 → Sat cx.n ρ1 nx1 env a → Abs cx.B ρ1 nx1 H S w →
      Code.rounds cx.P body (fun e a' w' => ∃ ρ' env' H' S' nx', (∀ i, i < nx → ρ' i = ρ i) ∧ nx ≤ nx' ∧ Sat cx.n ρ' nx' env' a' ∧ Abs cx.B ρ' nx' H' S' w' ∧ K e env' H' S' nx') n a w := by
    intro n
    induction n with
    | zero => intro env H S nx1 ρ1 a w h; exact h.elim
    | succ n ih =>
      intro env H S nx1 ρ1 a w h hr hn hs hw
      rw [rounds_succ]
      have h' : Wp cx body env H S nx1 (fun e env' H' S' nx' => match e with
        | .normal => RoundsK cx body K n env' H' S' nx'
        | e => K e env' H' S' nx') := h
      refine wp_mono (h'.out ρ1 a w hs hw) ?_
      rintro e a' w' ⟨ρ', env', H', S', nx', h1, h2, h3, h4, h5⟩
      have hr' : ∀ i, i < nx → ρ' i = ρ i := fun i hi => (h1 i (Nat.lt_of_lt_of_le hi hn)).trans (hr i hi)
      cases e with
      | normal => exact ih h5 hr' (Nat.le_trans hn h2) h3 h4
      | _ => exact ⟨ρ', env', H', S', nx', hr', Nat.le_trans hn h2, h3, h4, h5⟩
  exact key n h (fun _ _ => rfl) (Nat.le_refl _) hs hw
/-- a fact that holds in every world at hand -/
theorem Wp.know {cx : Cx} {c : Code} {env : Env} {H : Heap} {S : Asn} {nx : Nat} {K : Exit → Env → Heap → Asn → Nat → Prop} {p : Prop} (h1 : ∀ ρ w, Abs cx.B ρ nx H S w → p) (h2 : p → Wp cx c env H S nx K) : Wp cx c env H S nx K :=
  ⟨fun ρ a w hs hw => (h2 (h1 ρ w hw)).out ρ a w hs hw⟩

theorem idx_z {base : Option Addr} {len size : Nat} {z : Int} {K : SV → Prop} {a : Addr} (hb : base = some a) (h0 : 0 ≤ z) (h1 : z < len) (h : K (.c (.pointer (some (a.add (z.toNat * size)))))) : idxK base len size z K := by
  rw [idxK_def]; exact ⟨a, hb, h0, h1, h⟩
theorem ro_int {a : Addr} {j : Nat} {S : Asn} {xs : List Int} {K : SV → Prop} (hx : ∀ R w, S.holds R w → RowsI w (some a) 1 (ints xs)) (hj : j < xs.length) (h : K (.c (.int .i64 (xs.getD j 0)))) : roK (a.add (j * 1)) S K :=
  ro_row0 hx [.int .i64 (xs.getD j 0)] (.int .i64 (xs.getD j 0)) (by rw [ints_get hj]; simp [List.getD, hj]) rfl h
theorem slice_full {base : Option Addr} {len cap size : Nat} {K : SV → Prop} (hc : len ≤ cap) (h : K (.c (.slice base len len))) : sliceK base len cap size none (some (len : Int)) (some (len : Int)) K := by
  rw [sliceK_def]
  refine ⟨0, len, len, rfl, rfl, rfl, Nat.zero_le _, Nat.le_refl _, hc, fun _ => rfl, ?_⟩
  have : (if len = 0 then base else base.map (·.add (0 * size))) = base := by
    split
    · rfl
    · cases base <;> simp [Addr.add]
  have e : len - 0 = len := Nat.sub_zero len
  rw [this, e]
  exact h
theorem Abs.grow {B : Base} {ρ : Nat → Loc} {nx : Nat} {H : Heap} {S : Asn} {w w' : World} {D : Asn} (hw : Abs B ρ nx H S w) (he : Ext w w') (hD : D.holds (fun b => w.heap.size ≤ b ∧ b < w'.heap.size) w') : Abs B ρ nx H (S.and (D.past B.w0.heap.size)) w' := by
  obtain ⟨R, φ, hwR⟩ := hw
  have hwR' := hwR.step (Step.of_ext he) (fun _ _ h => h) (fun _ _ _ _ h => h)
  refine ⟨fun b => R b ∨ (w.heap.size ≤ b ∧ b < w'.heap.size), φ, hwR'.os, hwR'.tape, hwR'.output, hwR'.size, hwR'.pin, fun b hb => hb.elim (hwR'.ro b) (fun h => h.2), ⟨S.stable (fun _ h => .inl h) (fun _ _ => rfl) hwR'.asn, ?_⟩, hwR'.key, hwR'.ent, fun p hp b hb hb' => ?_, hwR'.sep⟩
  · exact D.stable (fun b hb => ⟨.inr hb, Nat.le_trans hwR.size hb.1⟩) (fun _ _ => rfl) hD
  · rcases hb' with hb' | hb'
    · exact hwR'.apart p hp b hb hb'
    · have := Ent.size (hwR.ent p hp) hb; omega
/-- a call that hands back data in new memory, which stay -/
theorem call_past {cx : Cx} {f : FuncId} {args : List SV} {H : Heap} {S : Asn} {nx : Nat} {K : SV → Heap → Asn → Nat → Prop} (hf : ∀ ar w, (callFunc f ar).run cx.P w = .ok (.enter f ar) w) {α : Type} (val : α → Value) (D : α → Asn) (p : α → Prop)
    (hc : ∀ ρ w, Abs cx.B ρ nx H S w → Calls cx.P f (SV.rfs ρ args).toArray w (fun e w' => ∃ x, p x ∧ e = .returned (val x) ∧ Ext w w' ∧ (D x).holds (fun b => w.heap.size ≤ b ∧ b < w'.heap.size) w'))
    (h : ∀ x, p x → K (.c (val x)) H (S.and ((D x).past cx.B.w0.heap.size)) nx) : callK cx f args H S nx K := by
  rw [callK_def]
  refine ⟨hf, fun ρ w hw => (hc ρ w hw).mono ?_⟩
  rintro e w' ⟨x, hp, rfl, he, hD⟩
  exact ⟨.c (val x), ρ, H, _, nx, rfl, fun _ _ => rfl, Nat.le_refl _, SV.lt_c _, hw.grow he hD, h x hp⟩
/-- at the end: data of blocks from N on lie in new blocks -/
theorem past_new {B : Base} {ρ : Nat → Loc} {nx : Nat} {H : Heap} {S D : Asn} {w : World} (hw : Abs B ρ nx H S w) (hS : ∀ R w', S.holds R w' → (D.past B.w0.heap.size).holds R w') : D.holds (fun b => B.w0.heap.size ≤ b ∧ b < w.heap.size) w := by
  obtain ⟨R, φ, hw⟩ := hw
  exact D.stable (fun b hb => ⟨hb.2, hw.ro b hb.1⟩) (fun _ _ => rfl) (hS R w hw.asn)
theorem sub_sublist {α : Type} {l : List α} : l.Sublist l := List.Sublist.refl l
end Go.SX
/- SxY -/
namespace Go.SX
open Go.RowKit

/-! ### Calls that write into one box of the caller's -/
/-- the blocks that were there, but for one -/
def oth (w : World) (b : Nat) : Nat → Prop := fun x => x < w.heap.size ∧ x ≠ b
/-- all but one block stand as they did -/
def restA (w0 : World) (b : Nat) : Asn where
  holds R w := ∀ x, oth w0 b x → R x ∧ w.heap[x]? = w0.heap[x]?
  stable := fun hR hw h x hx => ⟨hR x (h x hx).1, (hw x (h x hx).1).trans (h x hx).2⟩
theorem rest_holds {w w' : World} {b : Nat} {R : Nat → Prop} {D : Asn} (h : D.holds (oth w b) w) (hr : (restA w b).holds R w') : D.holds R w' :=
  D.stable (fun x hx => (hr x hx).1) (fun x hx => (hr x hx).2) h
def boxL (b : Nat) : Loc := ⟨some ⟨b, 0, none⟩, 0⟩
/-- a function's beginning, with one box of its caller's -/
theorem abs_box {w : World} {b : Nat} {cells : List Value} {T : TypeId} (hb : w.heap[b]? = some (.cells cells.toArray T (0, 0))) :
    Abs ⟨w, [(0, boxL b)]⟩ (fun _ => boxL b) 1 [(0, .box (cs cells) T)] (restA w b) w := by
  refine ⟨oth w b, fun _ x => x = b, rfl, rfl, rfl, Nat.le_refl _, ?_, fun x hx => hx.1, fun x hx => ⟨hx, rfl⟩, ?_, ?_, ?_, ?_⟩
  · intro p hp; simp at hp; subst hp; exact ⟨Nat.lt_succ_self _, rfl⟩
  · intro p hp; simp at hp; subst hp; exact ⟨Nat.lt_succ_self _, fun i hi => absurd hi (by have := lts_cs 0 cells i; intro h; exact absurd (this h) (Nat.not_lt_zero _))⟩
  · intro p hp; simp at hp; subst hp; exact ⟨b, rfl, fun _ => Iff.rfl, by rw [rfs_cs]; exact hb⟩
  · intro p hp x hx hR; exact hR.2 hx
  · exact List.pairwise_singleton _ _
/-- at its end -/
theorem box_end {w w' : World} {b : Nat} {ρ : Nat → Loc} {nx : Nat} {H : Heap} {S : Asn} {cells : List Value} {T : TypeId} (hw : Abs ⟨w, [(0, boxL b)]⟩ ρ nx H S w') (hS : ∀ R w', S.holds R w' → (restA w b).holds R w') (he : (0, Ent.box (cs cells) T) ∈ H) :
    Step (fun y => y = b) w w' ∧ w'.heap[b]? = some (.cells cells.toArray T (0, 0)) := by
  obtain ⟨R, φ, hw⟩ := hw
  have hp := (hw.pin (0, boxL b) List.mem_cons_self).2
  obtain ⟨b', h1, h2, h3⟩ := hw.ent _ he
  simp only at hp h1
  rw [hp] at h1
  obtain rfl : b = b' := by simpa [boxL] using h1
  rw [rfs_cs] at h3
  exact ⟨⟨hw.os, hw.tape, hw.output, hw.size, fun x hx hne => (hS R w' hw.asn x ⟨hx, hne⟩).2⟩, h3⟩
/-- data in blocks beyond those that were there -/
theorem box_new {w w' : World} {b : Nat} {ρ : Nat → Loc} {nx : Nat} {H : Heap} {S D : Asn} (hw : Abs ⟨w, [(0, boxL b)]⟩ ρ nx H S w') (hD : ∀ R w', S.holds R w' → (D.past w.heap.size).holds R w') : D.holds (fun y => w.heap.size ≤ y ∧ y < w'.heap.size) w' := past_new hw hD

/-- what such a call leaves -/
def BoxPost {α : Type} (w : World) (b : Nat) (T : TypeId) (val : α → Value) (cells : α → List Value) (D : α → Asn) (p : α → Prop) (e : Ending) (w' : World) : Prop :=
  ∃ x, p x ∧ e = .returned (val x) ∧ Step (fun y => y = b) w w' ∧ w'.heap[b]? = some (.cells (cells x).toArray T (0, 0)) ∧ (D x).holds (fun y => w.heap.size ≤ y ∧ y < w'.heap.size) w'
theorem call_box {cx : Cx} {f : FuncId} {args : List SV} {H : Heap} {S : Asn} {nx i : Nat} {K : SV → Heap → Asn → Nat → Prop} {cells : List SV} {T : TypeId} (hi : (i, Ent.box cells T) ∈ H) (hf : ∀ ar w, (callFunc f ar).run cx.P w = .ok (.enter f ar) w) {α : Type} (val : α → Value) (cells' : α → List Value) (D : α → Asn) (p : α → Prop)
    (hc : ∀ R ρ w b, Abs cx.B ρ nx H S w → S.holds R w → (∀ x, R x → oth w b x) → (ρ i).base = some ⟨b, 0, none⟩ → w.heap[b]? = some (.cells (SV.rfs ρ cells).toArray T (0, 0)) → Calls cx.P f (SV.rfs ρ args).toArray w (BoxPost w b T val cells' D p))
    (h : ∀ x, p x → K (.c (val x)) (setH i (.box (cs (cells' x)) T) H) (S.and ((D x).past cx.B.w0.heap.size)) nx) : callK cx f args H S nx K := by
  rw [callK_def]
  refine ⟨hf, fun ρ w hw => ?_⟩
  have hw0 := hw
  obtain ⟨R, φ, hwR⟩ := hw
  obtain ⟨b, h1, h2, h3⟩ := hwR.ent _ hi
  simp only at h1 h2
  refine (hc R ρ w b hw0 hwR.asn (fun x hx => ⟨hwR.ro x hx, fun e => hwR.apart _ hi x ((h2 x).2 e) hx⟩) h1 h3).mono ?_
  rintro e w' ⟨x, hp, rfl, hs, hb, hD⟩
  have hlt : (Ent.box (cs (cells' x)) T).lt nx := fun y hy => lts_cs nx _ y hy
  have h' := hwR.store hi hlt (w' := w') fun F hF => by
    obtain ⟨b', g1, g2, g3⟩ := hF
    obtain rfl : b = b' := by rw [h1] at g1; simpa using g1
    exact ⟨⟨hs.os, hs.tape, hs.output, hs.size, fun y hy hne => hs.block y hy fun e => hne ((g2 y).2 e)⟩, b, g1, g2, by rw [rfs_cs]; exact hb⟩
  refine ⟨.c (val x), ρ, _, _, nx, rfl, fun _ _ => rfl, Nat.le_refl _, SV.lt_c _, ?_, h x hp⟩
  refine ⟨fun y => R y ∨ (w.heap.size ≤ y ∧ y < w'.heap.size), φ, h'.os, h'.tape, h'.output, h'.size, h'.pin, fun y hy => hy.elim (h'.ro y) (fun h => h.2), ⟨S.stable (fun _ h => .inl h) (fun _ _ => rfl) h'.asn, ?_⟩, h'.key, h'.ent, fun q hq y hy hy' => ?_, h'.sep⟩
  · exact (D x).stable (fun y hy => ⟨.inr hy, Nat.le_trans hwR.size hy.1⟩) (fun _ _ => rfl) hD
  · rcases hy' with hy' | hy'
    · exact h'.apart q hq y hy hy'
    · have hk : q.1 ∈ H.map (·.1) := by rw [← keys_setH i (.box (cs (cells' x)) T) H]; exact List.mem_map.2 ⟨q, hq, rfl⟩
      obtain ⟨q', hq', e⟩ := List.mem_map.1 hk
      rw [← e] at hy
      have := Ent.size (hwR.ent q' hq') hy
      omega
end Go.SX
/- SxZ -/
namespace Go.SX
open Go.RowKit
theorem sep_two {φ : Nat → Nat → Prop} : ∀ {H : Heap}, H.Pairwise (fun p q => p.1 ≠ q.1 ∧ ∀ b, φ p.1 b → ¬ φ q.1 b) → ∀ {p q : Nat × Ent}, p ∈ H → q ∈ H → p.1 ≠ q.1 → ∀ b, φ p.1 b → ¬ φ q.1 b
  | [], _, p, q, hp, _, _, _, _ => by cases hp
  | x :: r, hs, p, q, hp, hq, hne, b, hb => by
    obtain ⟨hx, hr⟩ := List.pairwise_cons.1 hs
    intro hb'
    rcases List.mem_cons.1 hp with gp | gp <;> rcases List.mem_cons.1 hq with gq | gq
    · exact hne (by rw [gp, gq])
    · rw [← gp] at hx; exact (hx _ gq).2 b hb hb'
    · rw [← gq] at hx; exact (hx _ gp).2 b hb' hb
    · exact sep_two hr gp gq hne b hb hb'
/-- one's own rows, in a function that got a box: they are new -/
theorem box_rows {w w' : World} {b : Nat} {ρ : Nat → Loc} {nx j k : Nat} {H : Heap} {S : Asn} {cells : List SV} {T T' : TypeId} {xs : List (List Value)} (hw : Abs ⟨w, [(0, boxL b)]⟩ ρ nx H S w') (hS : ∀ R w', S.holds R w' → (restA w b).holds R w') (h0 : (0, Ent.box cells T) ∈ H) (he : (j, Ent.rows xs k T') ∈ H) (hj : j ≠ 0) :
    NewRows w w' ((SV.os j xs.length).rf ρ) k T' xs := by
  obtain ⟨R, φ, hw⟩ := hw
  have hp := (hw.pin (0, boxL b) List.mem_cons_self).2
  obtain ⟨b', h1, h2, h3⟩ := hw.ent _ h0
  simp only at hp h1
  rw [hp] at h1
  obtain rfl : b = b' := by simpa [boxL] using h1
  refine ⟨ρ j, rfl, φ j, fun x hx => ?_, hw.ent _ he⟩
  rcases Nat.lt_or_ge x w.heap.size with hl | hl
  · exfalso
    by_cases hxb : x = b
    · exact sep_two hw.sep he h0 hj x hx ((h2 x).2 hxb)
    · exact hw.apart _ he x hx (hS R w' hw.asn x ⟨hl, hxb⟩).1
  · exact hl
end Go.SX
