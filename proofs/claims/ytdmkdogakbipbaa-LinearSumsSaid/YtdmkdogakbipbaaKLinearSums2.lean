import Derived.ProofKit
import Derived.OpenShut
import Derived.Deep.Slices
import Derived.LoopN
import Derived.Laws.BytesString
import Derived.Laws.Cells
import Derived.Test.YtdmkdogakbipbaaKLinearSums1
/- SxU -/
namespace Go.SX
open Go.RowKit

/-! ### Integers in rows -/
def ints (xs : List Int) : List (List Value) := xs.map fun x => [.int .i64 x]
theorem ints_length (xs : List Int) : (ints xs).length = xs.length := by simp [ints]
theorem ints_get {xs : List Int} {k : Nat} (h : k < xs.length) : (ints xs)[k]? = some [.int .i64 xs[k]] := by simp [ints, h]
theorem ints_row {xs : List Int} : ∀ r ∈ ints xs, r.length = 1 ∧ ∀ v ∈ r, v.oneCell' = true := by
  intro r hr
  simp only [ints, List.mem_map] at hr
  obtain ⟨x, _, rfl⟩ := hr
  exact ⟨rfl, fun v hv => by simp at hv; subst hv; rfl⟩

theorem cell_block {w : World} {a : Addr} {v : Value} (h : w.cell? a = some v) : a.block < w.heap.size := by
  unfold World.cell? at h
  split at h
  · rename_i c _ _ hb; exact lt_size_of_some hb
  · cases h
theorem cell_same {w w' : World} {a : Addr} (h : w'.heap[a.block]? = w.heap[a.block]?) : w'.cell? a = w.cell? a := by
  unfold World.cell?; rw [h]
theorem rows_base {w w' : World} {R : Nat → Prop} {base : Option Addr} {k : Nat} {xs : List (List Value)} (hb : (baseA w).holds R w') (h : RowsI w base k xs) : RowsI w' base k xs := by
  rcases h with h | ⟨a, ha, h⟩
  · exact .inl h
  · refine .inr ⟨a, ha, fun i r hi j v hj => ?_⟩
    have := h i r hi j v hj
    rw [cell_same (hb _ (cell_block this)).2]; exact this
theorem rows_ext {w w' : World} {base : Option Addr} {k : Nat} {xs : List (List Value)} (he : Ext w w') (h : RowsI w base k xs) : RowsI w' base k xs := by
  rcases h with h | ⟨a, ha, h⟩
  · exact .inl h
  · refine .inr ⟨a, ha, fun i r hi j v hj => ?_⟩
    have := h i r hi j v hj
    rw [cell_same (he.block _ (cell_block this))]; exact this
theorem rows_cons {a : Addr} {w : World} {k j : Nat} {xs : List (List Value)} (hj : j < xs.length) {base : Option Addr} (h : RowsI w base k xs) (ha : base = some a) : RowsI w (some a) k xs := by subst ha; exact h
end Go.SX
/- SxV -/
namespace Go.SX
open Go.RowKit

theorem call_bool {cx : Cx} {f : FuncId} {args : List SV} {H : Heap} {S : Asn} {nx : Nat} {K : SV → Heap → Asn → Nat → Prop} (hf : ∀ as w, (callFunc f as).run cx.P w = .ok (.enter f as) w) (b : Bool)
    (hc : ∀ ρ w, Abs cx.B ρ nx H S w → Calls cx.P f (SV.rfs ρ args).toArray w (fun e w' => e = .returned (.bool b) ∧ Ext w w')) (h1 : b = true → K (.c (.bool true)) H S nx) (h2 : b = false → K (.c (.bool false)) H S nx) : callK cx f args H S nx K := by
  cases b with
  | true => exact call_pure hf _ hc (h1 rfl)
  | false => exact call_pure hf _ hc (h2 rfl)
theorem callQ_bool {cx : Cx} {f : FuncId} {args : List SV} {H : Heap} {S : Asn} {nx : Nat} {K : SV → Prop} (hf : ∀ as w, (callFunc f as).run cx.P w = .ok (.enter f as) w) (b : Bool)
    (hc : ∀ ρ w, Abs cx.B ρ nx H S w → Calls cx.P f (SV.rfs ρ args).toArray w (fun e w' => e = .returned (.bool b) ∧ Ext w w')) (h1 : b = true → K (.c (.bool true))) (h2 : b = false → K (.c (.bool false))) : callQ cx f args H S nx K := by
  cases b with
  | true => exact callQ_of hf _ hc (h1 rfl)
  | false => exact callQ_of hf _ hc (h2 rfl)

/-- a slice held against nil -/
theorem slice_nil_eql {P : Program} {t : TypeId} {ti : TI} (h : mkTI P t = some ti) (hk : ti.kind = 1) {ox oy : Operand} {base : Option Addr} {len cap : Nat} {K : SV → Prop} (hK : K (.c (.bool base.isNone))) :
    pureK P (do eqGuard .eql t ox oy (.slice base len cap) (.slice none 0 0); binOp .eql t (.slice base len cap) (.slice none 0 0)) K := by
  rw [pureK_def]
  obtain ⟨i, d, z, hi, hd, hz, rfl⟩ := mkTI_spec h
  simp only at hk
  have hs : ∃ e, d = .slice e := by cases d <;> first | exact ⟨_, rfl⟩ | (simp [kindOf] at hk)
  obtain ⟨e, rfl⟩ := hs
  refine ⟨.bool base.isNone, fun w => ?_, hK⟩
  have h1 : (eqGuard .eql t ox oy (.slice base len cap) (.slice none 0 0)).run P w = .ok () w := by unfold eqGuard; simp
  have h2 : (Op.equal t (.slice base len cap) (.slice none 0 0)).run P w = .ok base.isNone w := by
    unfold Op.equal
    rw [show Op.maxDepth = Nat.succ 9999 from rfl]
    unfold Op.equalIn
    simp only [Sem.run_bind, run_underlying hd, Result.andThen_ok]
    cases base <;> rfl
  simp only [Sem.run_bind, h1, Result.andThen_ok, binOp, h2, Sem.run_pure]

theorem newRows_data {w w' : World} {v : Value} {k : Nat} {T : TypeId} {xs : List (List Value)} (h : NewRows w w' v k T xs) : (rowsV v k xs).holds (fun b => w.heap.size ≤ b ∧ b < w'.heap.size) w' := by
  obtain ⟨l, rfl, F, hF, hr, hcap, hent⟩ := h
  refine ⟨l.base, l.cap, rfl, hr, ?_⟩
  rcases hent with ⟨h1, h2, _⟩ | ⟨b, off, c, h1, h2, h3, h4, h5⟩
  · exact .inl (List.eq_nil_of_length_eq_zero (by omega))
  · refine .inr ⟨b, off, h1, ⟨hF b ((h2 b).2 rfl), lt_size_of_some h3⟩, fun i r hi j v hj => ?_⟩
    have := h5 i r hi j v hj
    rw [← Nat.add_assoc]
    simpa [World.cell?, h3] using this
theorem Asn.mono (S : Asn) {R R' : Nat → Prop} {w : World} (h : S.holds R w) (hR : ∀ b, R b → R' b) : S.holds R' w := S.stable hR (fun _ _ => rfl) h

/-- rows at hand: one's own slice as a caller sees it -/
theorem rows_of_abs {B : Base} {ρ : Nat → Loc} {nx : Nat} {H : Heap} {S : Asn} {w : World} {i : Nat} {xs : List (List Value)} {k : Nat} {T : TypeId} (h : Abs B ρ nx H S w) (he : (i, Ent.rows xs k T) ∈ H) : RowsI w (ρ i).base k xs := by
  obtain ⟨R, φ, h⟩ := h
  obtain ⟨hr, hcap, hent⟩ := h.ent _ he
  simp only at hcap hent
  rcases hent with ⟨h1, h2, _⟩ | ⟨b, off, c, h1, h2, h3, h4, h5⟩
  · exact .inl (List.eq_nil_of_length_eq_zero (by omega))
  · refine .inr ⟨_, h1, fun m r hm j v hj => ?_⟩
    have := h5 m r hm j v hj
    rw [add_none, ← Nat.add_assoc]
    simpa [World.cell?, h3] using this
theorem holds_of_abs {B : Base} {ρ : Nat → Loc} {nx : Nat} {H : Heap} {S : Asn} {w : World} {p : Prop} (h : Abs B ρ nx H S w) (hp : ∀ R, S.holds R w → p) : p := by
  obtain ⟨R, φ, h⟩ := h; exact hp R h.asn
theorem rowsV_in {v : Value} {k : Nat} {xs : List (List Value)} {R : Nat → Prop} {w : World} (h : (rowsV v k xs).holds R w) : ∃ base cap, v = .slice base xs.length cap ∧ RowsI w base k xs := by
  obtain ⟨base, cap, h1, h2⟩ := h
  exact ⟨base, cap, h1, rowsA_in h2⟩
end Go.SX
/- SxW -/
namespace Go.SX
open Go.RowKit Go.ChangeShapes Go.WideShapes Go.Deep

/-! ### Arguments: from the reading to what the walk asks -/
section
variable {P : Program} {w : World}

/-- whatever is read of this type has cells of this form -/
structure Opens (P : Program) (w : World) (t : TypeId) (Q : List Value → Prop) : Prop where
  out : ∀ {H : Type} (enc : TypeId × Value → H) (base : Nat) (sp : Nat → Bool) (held : Bool) (n : Nat) (cs : List Value) (x : DataW H × List MemPlace), DataW.trod enc P w base sp held n t cs = some x → Q cs

theorem Opens.mono {t : TypeId} {Q Q' : List Value → Prop} (h : Opens P w t Q) (hq : ∀ cs, Q cs → Q' cs) : Opens P w t Q' :=
  ⟨fun enc base sp held n cs x hx => hq cs (h.out enc base sp held n cs x hx)⟩

theorem opens_int {t : TypeId} {k : IntKind} (ht : P.underlying t = some (.int k)) : Opens P w t fun cs => ∃ i, (Lit.int k i).wf = true ∧ cs = [.int k i] := by
  constructor
  intro H enc base sp held n cs x h
  obtain ⟨i, h1, _, h2⟩ := DataW.trod_int ht h
  exact ⟨i, h2, h1⟩

theorem opens_bool {t : TypeId} (ht : P.underlying t = some .bool) : Opens P w t fun cs => ∃ b, cs = [.bool b] := by
  constructor
  intro H enc base sp held n cs x h
  obtain ⟨b, h1, _⟩ := DataW.trod_bool ht h
  exact ⟨b, h1⟩

def SliceQ (w : World) (k : Nat) (Q : List Value → Prop) (cs : List Value) : Prop :=
  ∃ (base : Option Addr) (cap : Nat) (xs : List (List Value)), cs = [.slice base xs.length cap] ∧ RowsI w base k xs ∧ (∀ r ∈ xs, r.length = k ∧ Q r) ∧ xs.length ≤ cap ∧ cap ≤ maxLen ∧ (base = none → cap = 0)

theorem cells?_get {w : World} {base : Nat} {a : Addr} {n : Nat} {cs : List Value} (h : w.cells? base a n = some cs) : cs.length = n ∧ ∀ j v, cs[j]? = some v → w.cell? (a.add j) = some v := by
  obtain ⟨_, hl, hc⟩ := World.cells?_some h
  refine ⟨hl, fun j v hv => ?_⟩
  have hj : j < n := by rw [← hl]; exact (List.getElem?_eq_some_iff.1 hv).1
  rw [← hv]
  exact hc j hj

theorem opens_slice {t e : TypeId} {k : Nat} {Q : List Value → Prop} (ht : P.underlying t = some (.slice e)) (hc : P.cellsOf e = k) (he : Opens P w e Q) : Opens P w t (SliceQ w k Q) := by
  constructor
  intro H enc base sp held n cs x h
  rcases open_slice ht h with ⟨rfl, _⟩ | ⟨a, len, cap, m, n', D, Pl, rfl, _, hl, hm, hmm, _, hx⟩
  · exact ⟨none, 0, [], rfl, .inl rfl, fun r hr => by simp at hr, Nat.le_refl _, Nat.zero_le _, fun _ => rfl⟩
  · have hlm : len ≤ m := by rw [hmm]; split <;> omega
    obtain ⟨f, hf⟩ := choose_lt (α := List Value) (n := len) (p := fun i r => w.cells? base (a.add (i * k)) k = some r ∧ Q r) (fun i hi => by
      obtain ⟨cs', h1, h2⟩ := hx i (by omega)
      rw [hc] at h1
      exact ⟨cs', h1, he.out enc base sp held n' cs' _ h2⟩)
    refine ⟨some a, cap, (List.range len).map f, by simp, .inr ⟨a, rfl, fun i r hr j v hv => ?_⟩, fun r hr => ?_, by simpa using hl, hm, fun h0 => by cases h0⟩
    · have hi : i < len := by have := (List.getElem?_eq_some_iff.1 hr).1; simpa using this
      rw [List.getElem?_map, List.getElem?_range hi] at hr
      simp only [Option.map_some, Option.some.injEq] at hr
      subst hr
      have := (cells?_get (hf i hi).1).2 j v hv
      rwa [Deep.add_add] at this
    · simp only [List.mem_map, List.mem_range] at hr
      obtain ⟨i, hi, rfl⟩ := hr
      exact ⟨(cells?_get (hf i hi).1).1, (hf i hi).2⟩

/-- the fields: offset, number of cells, form -/
theorem opens_struct {t : TypeId} {fs : Array Field} {k : Nat} {Q : Field → List Value → Prop} (ht : P.underlying t = some (.struct fs)) (hk : P.cellsOf t = k) (hf : ∀ f ∈ fs, Opens P w f.type (Q f)) :
    Opens P w t fun cs => cs.length = k ∧ ∀ f ∈ fs, Q f ((cs.drop f.offset).take (P.cellsOf f.type)) := by
  constructor
  intro H enc base sp held n cs x h
  obtain ⟨xs, n', _, _, hl, hlen, hx⟩ := DataW.trod_struct ht h
  refine ⟨hl.trans hk, fun f hfm => ?_⟩
  obtain ⟨i, hi, rfl⟩ := Array.mem_iff_getElem.1 hfm
  have h1 := hx i fs[i] (by simp [hi])
  rw [List.getElem?_eq_getElem (by omega)] at h1
  exact (hf _ hfm).out enc base sp held n' _ _ h1

theorem list_map_of {α : Type} {f : α → List Value} {p : α → Prop} : ∀ {xs : List (List Value)}, (∀ r ∈ xs, ∃ a, p a ∧ r = f a) → ∃ l : List α, xs = l.map f ∧ ∀ a ∈ l, p a
  | [], _ => ⟨[], rfl, fun _ h => by simp at h⟩
  | r :: xs, h => by
    obtain ⟨a, ha, rfl⟩ := h r (by simp)
    obtain ⟨l, rfl, hl⟩ := list_map_of (xs := xs) fun r hr => h r (by simp [hr])
    exact ⟨a :: l, rfl, fun b hb => by rcases List.mem_cons.1 hb with rfl | hb; exact ha; exact hl b hb⟩

/-- a slice of ints -/
def IntsQ (w : World) (v : Value) (base : Option Addr) (cap : Nat) (xs : List Int) : Prop :=
  v = .slice base xs.length cap ∧ RowsI w base 1 (ints xs) ∧ (∀ x ∈ xs, (Lit.int .i64 x).wf = true) ∧ xs.length ≤ cap ∧ cap ≤ maxLen ∧ (base = none → cap = 0)

theorem opens_ints {t e : TypeId} (ht : P.underlying t = some (.slice e)) (he : P.underlying e = some (.int .i64)) (hc : P.cellsOf e = 1) : Opens P w t fun cs => ∃ v base cap xs, cs = [v] ∧ IntsQ w v base cap xs := by
  refine Opens.mono (opens_slice ht hc (opens_int he)) ?_
  rintro cs ⟨base, cap, xs, rfl, h1, h2, h3, h4, h5⟩
  obtain ⟨l, rfl, hl⟩ := list_map_of (f := fun i => [.int .i64 i]) (p := fun i => (Lit.int .i64 i).wf = true) fun r hr => (h2 r hr).2
  exact ⟨_, base, cap, l, by simp, rfl, h1, hl, by simpa using h3, h4, h5⟩

theorem cells_slice {v : Value} {b : Option Addr} {l c : Nat} {t e : TypeId} {r : Reach} {b0 : Nat} (ht : P.underlying t = some (.slice e)) (hv : Value.okWide P w r b0 t v) (h : v.cells.toList = [.slice b l c]) : v = .slice b l c := by
  obtain ⟨a, l', c', rfl⟩ := okWide_slice ht hv
  simpa [Value.cells] using h
theorem cells_int {v : Value} {k : IntKind} {i : Int} {t : TypeId} {r : Reach} {b0 : Nat} (ht : P.underlying t = some (.int k)) (hv : Value.okWide P w r b0 t v) (h : v.cells.toList = [.int k i]) : v = .int k i := by
  obtain ⟨n, rfl⟩ := okWide_int ht hv
  simpa [Value.cells] using h
theorem cells_agg {v : Value} {cs : List Value} {t : TypeId} {fs : Array Field} {r : Reach} {b0 : Nat} (ht : P.underlying t = some (.struct fs)) (hv : Value.okWide P w r b0 t v) (h : v.cells.toList = cs) : v = .agg cs.toArray := by
  simp only [Value.okWide, ht] at hv
  obtain ⟨c, rfl, _⟩ := hv
  simp only [Value.cells] at h
  rw [← h]
end

/-! ### The law's end -/
section
variable {H : Type} {enc : TypeId × Value → H} {P : Program}

theorem trodAll_stays (hl : laidOutB P = true) {W W' : World} (hE : Ext W W') {sp : Nat → Bool} : ∀ (ts : List TypeId) (vs : List Value) (ds : List (DataW H)) (ps : List MemPlace),
    (∀ t ∈ ts, P.readableRec t = true ∧ t < P.types.size) → DataW.TrodAll enc P W 0 (fun _ => true) true ts vs ds ps → (∀ p ∈ ps, p.block < W.heap.size) → (∀ p ∈ ps, sp p.block = true) → DataW.TrodAll enc P W' 0 sp true ts vs ds ps
  | [], [], [], ps, _, h, _, _ => h
  | t :: ts, v :: vs, d :: ds, ps, ht, h, hlt, hs => by
    obtain ⟨p, q, h1, h2, rfl⟩ := h
    refine ⟨p, q, ?_, trodAll_stays hl hE ts vs ds q (fun u hu => ht u (by simp [hu])) h2 (fun x hx => hlt x (by simp [hx])) (fun x hx => hs x (by simp [hx])), rfl⟩
    exact WideElems.Trod_stays hl (ht t (by simp)).1 (ht t (by simp)).2 h1 (fun x hx => hE.same (hlt x (by simp [hx]))) (fun x hx => hs x (by simp [hx]))
  | [], _ :: _, _, _, _, h, _, _ => by simp [DataW.TrodAll] at h
  | [], [], _ :: _, _, _, h, _, _ => by simp [DataW.TrodAll] at h
  | _ :: _, [], _, _, _, h, _, _ => by simp [DataW.TrodAll] at h
  | _ :: _, _ :: _, [], _, _, h, _, _ => by simp [DataW.TrodAll] at h

/-- 'true, and the arguments read as they did' -/
theorem law_post {f : Func} {s : ChangeSpec} {apart fresh handsOn again : Bool} {W W' : World} {args : Array Value} {ds gs : List (DataW H)} {before : List MemPlace} {t : TypeId}
    (hl : laidOutB P = true) (hr : (f.params.toList.all fun t => P.readableRec t && decide (t < P.types.size)) = true) (hvars : s.vars = []) (hres : f.resultTypes = #[t]) (ht : P.underlying t = some .bool)
    (hfn : s.fn H ds = { results := [.lit (.bool true)], args := ds })
    (hW : DataW.Whole enc P f.params.toList s.vars apart W args.toList ds gs before) (hE : Ext W W') : s.post enc P f apart fresh handsOn again W args (.bool true) W' := by
  have hlt := hW.lt
  obtain ⟨p, q, hA, hV, hpq, _⟩ := id hW
  rw [hvars] at hV
  obtain ⟨rfl, rfl⟩ := trodVars_none hV
  have hfn' : s.fn H (ds ++ []) = { results := [.lit (.bool true)], args := ds } := by rw [List.append_nil]; exact hfn
  have hall : ∀ t ∈ f.params.toList, P.readableRec t = true ∧ t < P.types.size := fun t ht => by simpa using List.all_eq_true.1 hr t ht
  rw [List.append_nil] at hpq
  subst hpq
  have hres' : ∀ b sp hd, DataW.TrodAll enc P W' b sp hd f.resultTypes.toList ((Value.bool true).resultList f.resultTypes.size) (s.fn H (ds ++ [])).results [] := by
    intro b sp hd
    rw [hfn', hres]
    exact trodAll_mk1 (shut_bool ht _)
  have hargs : ∀ sp : Nat → Bool, (∀ x ∈ before, sp x.block = true) → DataW.TrodAll enc P W' 0 sp true f.params.toList args.toList (s.fn H (ds ++ [])).args before := by
    intro sp hsp
    rw [hfn']
    exact trodAll_stays hl hE _ _ _ _ hall hA hlt hsp
  have hvs : ∀ sp : Nat → Bool, DataW.TrodVars enc P W' sp s.vars (s.fn H (ds ++ [])).vars [] := by
    intro sp
    rw [hfn', hvars]
    rfl
  refine ⟨ds, [], before, [], before, [], hW, hres' _ _ _, hargs _ (fun x hx => by simpa using hlt x hx), hvs _, hE.frame _, fun _ => ?_⟩
  refine ⟨ok_one hres rfl (okWide_bool_mk ht _), _, _, ([] ++ before) ++ [], ⟨[] ++ before, [], trodAll_append (hargs _ (fun _ _ => rfl)) (hres' _ _ _), hvs _, rfl, ?_, ?_⟩, ?_⟩
  · intro b off hp
    obtain ⟨_, _, _, _, _, hz, _⟩ := hW
    have hp' : MemPlace.cell b off ∈ before := by simpa using hp
    rw [hE.frozen (hlt _ hp')]
    exact hz b off hp'
  · intro ha
    obtain ⟨_, _, _, _, _, _, hn⟩ := hW
    simpa using hn ha
  · intro p hp _
    simpa using hp

/-- the law's contract from its walk -/
theorem law_contract {f : Func} {n : FuncId} {s : ChangeSpec} {apart fresh handsOn again : Bool} {W : World} {args : Array Value} {ds gs : List (DataW H)} {before : List MemPlace} {t : TypeId}
    (hl : laidOutB P = true) (hr : (f.params.toList.all fun t => P.readableRec t && decide (t < P.types.size)) = true) (hvars : s.vars = []) (hres : f.resultTypes = #[t]) (ht : P.underlying t = some .bool)
    (hfn : s.fn H ds = { results := [.lit (.bool true)], args := ds })
    (hW : DataW.Whole enc P f.params.toList s.vars apart W args.toList ds gs before)
    (hc : Calls P n args W fun e W' => e = .returned (.bool true) ∧ Ext W W') :
    Calls P n args W fun e W' => ∃ v, e = .returned v ∧ s.post enc P f apart fresh handsOn again W args v W' :=
  hc.mono fun _ _ ⟨he, hE⟩ => ⟨_, he, law_post hl hr hvars hres ht hfn hW hE⟩
end
end Go.SX
/- SxX -/
namespace Go.SX
open Go.RowKit

/-- so many rounds of a loop at the most -/
def RoundsK (cx : Cx) (body : Code) (K : Exit → Env → Heap → Asn → Nat → Prop) : Nat → Env → Heap → Asn → Nat → Prop
  | 0, _, _, _, _ => False
  | n + 1, env, H, S, nx => Wp cx body env H S nx (fun e env' H' S' nx' => match e with
      | .normal => RoundsK cx body K n env' H' S' nx'
      | e => K e env' H' S' nx')
theorem Wp.rounds {cx : Cx} {body : Code} {env : Env} {H : Heap} {S : Asn} {nx : Nat} {K : Exit → Env → Heap → Asn → Nat → Prop} (n : Nat) (h : RoundsK cx body K n env H S nx) : Wp cx (.loop body) env H S nx K := by
  refine ⟨fun ρ a w hs hw => wp_loop_rounds n ?_⟩
  have key : ∀ (n : Nat) {env : Env} {H : Heap} {S : Asn} {nx1 : Nat} {ρ1 : Nat → Loc} {a : Act} {w : World}, RoundsK cx body K n env H S nx1 → (∀ i, i < nx → ρ1 i = ρ i) → nx ≤ nx1 → Sat cx.n ρ1 nx1 env a → Abs cx.B ρ1 nx1 H S w →
      Code.rounds cx.P body (fun e a' w' => ∃ ρ' env' H' S' nx', (∀ i, i < nx → ρ' i = ρ i) ∧ nx ≤ nx' ∧ Sat cx.n ρ' nx' env' a' ∧ Abs cx.B ρ' nx' H' S' w' ∧ K e env' H' S' nx') n a w := by
    intro n
    induction n with
    | zero => intro env H S nx1 ρ1 a w h; exact h.elim
    | succ n ih =>
      intro env H S nx1 ρ1 a w h hr hn hs hw
      rw [rounds_succ]
      have h' : Wp cx body env H S nx1 (fun e env' H' S' nx' => match e with
        | .normal => RoundsK cx body K n env' H' S' nx'
        | e => K e env' H' S' nx') := h
      refine wp_mono (h'.out ρ1 a w hs hw) ?_
      rintro e a' w' ⟨ρ', env', H', S', nx', h1, h2, h3, h4, h5⟩
      have hr' : ∀ i, i < nx → ρ' i = ρ i := fun i hi => (h1 i (Nat.lt_of_lt_of_le hi hn)).trans (hr i hi)
      cases e with
      | normal => exact ih h5 hr' (Nat.le_trans hn h2) h3 h4
      | _ => exact ⟨ρ', env', H', S', nx', hr', Nat.le_trans hn h2, h3, h4, h5⟩
  exact key n h (fun _ _ => rfl) (Nat.le_refl _) hs hw
/-- a fact that holds in every world at hand -/
theorem Wp.know {cx : Cx} {c : Code} {env : Env} {H : Heap} {S : Asn} {nx : Nat} {K : Exit → Env → Heap → Asn → Nat → Prop} {p : Prop} (h1 : ∀ ρ w, Abs cx.B ρ nx H S w → p) (h2 : p → Wp cx c env H S nx K) : Wp cx c env H S nx K :=
  ⟨fun ρ a w hs hw => (h2 (h1 ρ w hw)).out ρ a w hs hw⟩

theorem idx_z {base : Option Addr} {len size : Nat} {z : Int} {K : SV → Prop} {a : Addr} (hb : base = some a) (h0 : 0 ≤ z) (h1 : z < len) (h : K (.c (.pointer (some (a.add (z.toNat * size)))))) : idxK base len size z K := by
  rw [idxK_def]; exact ⟨a, hb, h0, h1, h⟩
theorem ro_int {a : Addr} {j : Nat} {S : Asn} {xs : List Int} {K : SV → Prop} (hx : ∀ R w, S.holds R w → RowsI w (some a) 1 (ints xs)) (hj : j < xs.length) (h : K (.c (.int .i64 (xs.getD j 0)))) : roK (a.add (j * 1)) S K :=
  ro_row0 hx [.int .i64 (xs.getD j 0)] (.int .i64 (xs.getD j 0)) (by rw [ints_get hj]; simp [List.getD, hj]) rfl h
theorem slice_full {base : Option Addr} {len cap size : Nat} {K : SV → Prop} (hc : len ≤ cap) (h : K (.c (.slice base len len))) : sliceK base len cap size none (some (len : Int)) (some (len : Int)) K := by
  rw [sliceK_def]
  refine ⟨0, len, len, rfl, rfl, rfl, Nat.zero_le _, Nat.le_refl _, hc, fun _ => rfl, ?_⟩
  have : (if len = 0 then base else base.map (·.add (0 * size))) = base := by
    split
    · rfl
    · cases base <;> simp [Addr.add]
  have e : len - 0 = len := Nat.sub_zero len
  rw [this, e]
  exact h
theorem Abs.grow {B : Base} {ρ : Nat → Loc} {nx : Nat} {H : Heap} {S : Asn} {w w' : World} {D : Asn} (hw : Abs B ρ nx H S w) (he : Ext w w') (hD : D.holds (fun b => w.heap.size ≤ b ∧ b < w'.heap.size) w') : Abs B ρ nx H (S.and (D.past B.w0.heap.size)) w' := by
  obtain ⟨R, φ, hwR⟩ := hw
  have hwR' := hwR.step (Step.of_ext he) (fun _ _ h => h) (fun _ _ _ _ h => h)
  refine ⟨fun b => R b ∨ (w.heap.size ≤ b ∧ b < w'.heap.size), φ, hwR'.os, hwR'.tape, hwR'.output, hwR'.size, hwR'.pin, fun b hb => hb.elim (hwR'.ro b) (fun h => h.2), ⟨S.stable (fun _ h => .inl h) (fun _ _ => rfl) hwR'.asn, ?_⟩, hwR'.key, hwR'.ent, fun p hp b hb hb' => ?_, hwR'.sep⟩
  · exact D.stable (fun b hb => ⟨.inr hb, Nat.le_trans hwR.size hb.1⟩) (fun _ _ => rfl) hD
  · rcases hb' with hb' | hb'
    · exact hwR'.apart p hp b hb hb'
    · have := Ent.size (hwR.ent p hp) hb; omega
/-- a call that hands back data in new memory, which stay -/
theorem call_past {cx : Cx} {f : FuncId} {args : List SV} {H : Heap} {S : Asn} {nx : Nat} {K : SV → Heap → Asn → Nat → Prop} (hf : ∀ ar w, (callFunc f ar).run cx.P w = .ok (.enter f ar) w) {α : Type} (val : α → Value) (D : α → Asn) (p : α → Prop)
    (hc : ∀ ρ w, Abs cx.B ρ nx H S w → Calls cx.P f (SV.rfs ρ args).toArray w (fun e w' => ∃ x, p x ∧ e = .returned (val x) ∧ Ext w w' ∧ (D x).holds (fun b => w.heap.size ≤ b ∧ b < w'.heap.size) w'))
    (h : ∀ x, p x → K (.c (val x)) H (S.and ((D x).past cx.B.w0.heap.size)) nx) : callK cx f args H S nx K := by
  rw [callK_def]
  refine ⟨hf, fun ρ w hw => (hc ρ w hw).mono ?_⟩
  rintro e w' ⟨x, hp, rfl, he, hD⟩
  exact ⟨.c (val x), ρ, H, _, nx, rfl, fun _ _ => rfl, Nat.le_refl _, SV.lt_c _, hw.grow he hD, h x hp⟩
/-- at the end: data of blocks from N on lie in new blocks -/
theorem past_new {B : Base} {ρ : Nat → Loc} {nx : Nat} {H : Heap} {S D : Asn} {w : World} (hw : Abs B ρ nx H S w) (hS : ∀ R w', S.holds R w' → (D.past B.w0.heap.size).holds R w') : D.holds (fun b => B.w0.heap.size ≤ b ∧ b < w.heap.size) w := by
  obtain ⟨R, φ, hw⟩ := hw
  exact D.stable (fun b hb => ⟨hb.2, hw.ro b hb.1⟩) (fun _ _ => rfl) (hS R w hw.asn)
theorem sub_sublist {α : Type} {l : List α} : l.Sublist l := List.Sublist.refl l
end Go.SX
/- SxY -/
namespace Go.SX
open Go.RowKit

/-! ### Calls that write into one box of the caller's -/
/-- the blocks that were there, but for one -/
def oth (w : World) (b : Nat) : Nat → Prop := fun x => x < w.heap.size ∧ x ≠ b
/-- all but one block stand as they did -/
def restA (w0 : World) (b : Nat) : Asn where
  holds R w := ∀ x, oth w0 b x → R x ∧ w.heap[x]? = w0.heap[x]?
  stable := fun hR hw h x hx => ⟨hR x (h x hx).1, (hw x (h x hx).1).trans (h x hx).2⟩
theorem rest_holds {w w' : World} {b : Nat} {R : Nat → Prop} {D : Asn} (h : D.holds (oth w b) w) (hr : (restA w b).holds R w') : D.holds R w' :=
  D.stable (fun x hx => (hr x hx).1) (fun x hx => (hr x hx).2) h
def boxL (b : Nat) : Loc := ⟨some ⟨b, 0, none⟩, 0⟩
/-- a function's beginning, with one box of its caller's -/
theorem abs_box {w : World} {b : Nat} {cells : List Value} {T : TypeId} (hb : w.heap[b]? = some (.cells cells.toArray T (0, 0))) :
    Abs ⟨w, [(0, boxL b)]⟩ (fun _ => boxL b) 1 [(0, .box (cs cells) T)] (restA w b) w := by
  refine ⟨oth w b, fun _ x => x = b, rfl, rfl, rfl, Nat.le_refl _, ?_, fun x hx => hx.1, fun x hx => ⟨hx, rfl⟩, ?_, ?_, ?_, ?_⟩
  · intro p hp; simp at hp; subst hp; exact ⟨Nat.lt_succ_self _, rfl⟩
  · intro p hp; simp at hp; subst hp; exact ⟨Nat.lt_succ_self _, fun i hi => absurd hi (by have := lts_cs 0 cells i; intro h; exact absurd (this h) (Nat.not_lt_zero _))⟩
  · intro p hp; simp at hp; subst hp; exact ⟨b, rfl, fun _ => Iff.rfl, by rw [rfs_cs]; exact hb⟩
  · intro p hp x hx hR; exact hR.2 hx
  · exact List.pairwise_singleton _ _
/-- at its end -/
theorem box_end {w w' : World} {b : Nat} {ρ : Nat → Loc} {nx : Nat} {H : Heap} {S : Asn} {cells : List Value} {T : TypeId} (hw : Abs ⟨w, [(0, boxL b)]⟩ ρ nx H S w') (hS : ∀ R w', S.holds R w' → (restA w b).holds R w') (he : (0, Ent.box (cs cells) T) ∈ H) :
    Step (fun y => y = b) w w' ∧ w'.heap[b]? = some (.cells cells.toArray T (0, 0)) := by
  obtain ⟨R, φ, hw⟩ := hw
  have hp := (hw.pin (0, boxL b) List.mem_cons_self).2
  obtain ⟨b', h1, h2, h3⟩ := hw.ent _ he
  simp only at hp h1
  rw [hp] at h1
  obtain rfl : b = b' := by simpa [boxL] using h1
  rw [rfs_cs] at h3
  exact ⟨⟨hw.os, hw.tape, hw.output, hw.size, fun x hx hne => (hS R w' hw.asn x ⟨hx, hne⟩).2⟩, h3⟩
/-- data in blocks beyond those that were there -/
theorem box_new {w w' : World} {b : Nat} {ρ : Nat → Loc} {nx : Nat} {H : Heap} {S D : Asn} (hw : Abs ⟨w, [(0, boxL b)]⟩ ρ nx H S w') (hD : ∀ R w', S.holds R w' → (D.past w.heap.size).holds R w') : D.holds (fun y => w.heap.size ≤ y ∧ y < w'.heap.size) w' := past_new hw hD

/-- what such a call leaves -/
def BoxPost {α : Type} (w : World) (b : Nat) (T : TypeId) (val : α → Value) (cells : α → List Value) (D : α → Asn) (p : α → Prop) (e : Ending) (w' : World) : Prop :=
  ∃ x, p x ∧ e = .returned (val x) ∧ Step (fun y => y = b) w w' ∧ w'.heap[b]? = some (.cells (cells x).toArray T (0, 0)) ∧ (D x).holds (fun y => w.heap.size ≤ y ∧ y < w'.heap.size) w'
theorem call_box {cx : Cx} {f : FuncId} {args : List SV} {H : Heap} {S : Asn} {nx i : Nat} {K : SV → Heap → Asn → Nat → Prop} {cells : List SV} {T : TypeId} (hi : (i, Ent.box cells T) ∈ H) (hf : ∀ ar w, (callFunc f ar).run cx.P w = .ok (.enter f ar) w) {α : Type} (val : α → Value) (cells' : α → List Value) (D : α → Asn) (p : α → Prop)
    (hc : ∀ R ρ w b, Abs cx.B ρ nx H S w → S.holds R w → (∀ x, R x → oth w b x) → (ρ i).base = some ⟨b, 0, none⟩ → w.heap[b]? = some (.cells (SV.rfs ρ cells).toArray T (0, 0)) → Calls cx.P f (SV.rfs ρ args).toArray w (BoxPost w b T val cells' D p))
    (h : ∀ x, p x → K (.c (val x)) (setH i (.box (cs (cells' x)) T) H) (S.and ((D x).past cx.B.w0.heap.size)) nx) : callK cx f args H S nx K := by
  rw [callK_def]
  refine ⟨hf, fun ρ w hw => ?_⟩
  have hw0 := hw
  obtain ⟨R, φ, hwR⟩ := hw
  obtain ⟨b, h1, h2, h3⟩ := hwR.ent _ hi
  simp only at h1 h2
  refine (hc R ρ w b hw0 hwR.asn (fun x hx => ⟨hwR.ro x hx, fun e => hwR.apart _ hi x ((h2 x).2 e) hx⟩) h1 h3).mono ?_
  rintro e w' ⟨x, hp, rfl, hs, hb, hD⟩
  have hlt : (Ent.box (cs (cells' x)) T).lt nx := fun y hy => lts_cs nx _ y hy
  have h' := hwR.store hi hlt (w' := w') fun F hF => by
    obtain ⟨b', g1, g2, g3⟩ := hF
    obtain rfl : b = b' := by rw [h1] at g1; simpa using g1
    exact ⟨⟨hs.os, hs.tape, hs.output, hs.size, fun y hy hne => hs.block y hy fun e => hne ((g2 y).2 e)⟩, b, g1, g2, by rw [rfs_cs]; exact hb⟩
  refine ⟨.c (val x), ρ, _, _, nx, rfl, fun _ _ => rfl, Nat.le_refl _, SV.lt_c _, ?_, h x hp⟩
  refine ⟨fun y => R y ∨ (w.heap.size ≤ y ∧ y < w'.heap.size), φ, h'.os, h'.tape, h'.output, h'.size, h'.pin, fun y hy => hy.elim (h'.ro y) (fun h => h.2), ⟨S.stable (fun _ h => .inl h) (fun _ _ => rfl) h'.asn, ?_⟩, h'.key, h'.ent, fun q hq y hy hy' => ?_, h'.sep⟩
  · exact (D x).stable (fun y hy => ⟨.inr hy, Nat.le_trans hwR.size hy.1⟩) (fun _ _ => rfl) hD
  · rcases hy' with hy' | hy'
    · exact h'.apart q hq y hy hy'
    · have hk : q.1 ∈ H.map (·.1) := by rw [← keys_setH i (.box (cs (cells' x)) T) H]; exact List.mem_map.2 ⟨q, hq, rfl⟩
      obtain ⟨q', hq', e⟩ := List.mem_map.1 hk
      rw [← e] at hy
      have := Ent.size (hwR.ent q' hq') hy
      omega
end Go.SX
/- SxZ -/
namespace Go.SX
open Go.RowKit
theorem sep_two {φ : Nat → Nat → Prop} : ∀ {H : Heap}, H.Pairwise (fun p q => p.1 ≠ q.1 ∧ ∀ b, φ p.1 b → ¬ φ q.1 b) → ∀ {p q : Nat × Ent}, p ∈ H → q ∈ H → p.1 ≠ q.1 → ∀ b, φ p.1 b → ¬ φ q.1 b
  | [], _, p, q, hp, _, _, _, _ => by cases hp
  | x :: r, hs, p, q, hp, hq, hne, b, hb => by
    obtain ⟨hx, hr⟩ := List.pairwise_cons.1 hs
    intro hb'
    rcases List.mem_cons.1 hp with gp | gp <;> rcases List.mem_cons.1 hq with gq | gq
    · exact hne (by rw [gp, gq])
    · rw [← gp] at hx; exact (hx _ gq).2 b hb hb'
    · rw [← gq] at hx; exact (hx _ gp).2 b hb' hb
    · exact sep_two hr gp gq hne b hb hb'
/-- one's own rows, in a function that got a box: they are new -/
theorem box_rows {w w' : World} {b : Nat} {ρ : Nat → Loc} {nx j k : Nat} {H : Heap} {S : Asn} {cells : List SV} {T T' : TypeId} {xs : List (List Value)} (hw : Abs ⟨w, [(0, boxL b)]⟩ ρ nx H S w') (hS : ∀ R w', S.holds R w' → (restA w b).holds R w') (h0 : (0, Ent.box cells T) ∈ H) (he : (j, Ent.rows xs k T') ∈ H) (hj : j ≠ 0) :
    NewRows w w' ((SV.os j xs.length).rf ρ) k T' xs := by
  obtain ⟨R, φ, hw⟩ := hw
  have hp := (hw.pin (0, boxL b) List.mem_cons_self).2
  obtain ⟨b', h1, h2, h3⟩ := hw.ent _ h0
  simp only at hp h1
  rw [hp] at h1
  obtain rfl : b = b' := by simpa [boxL] using h1
  refine ⟨ρ j, rfl, φ j, fun x hx => ?_, hw.ent _ he⟩
  rcases Nat.lt_or_ge x w.heap.size with hl | hl
  · exfalso
    by_cases hxb : x = b
    · exact sep_two hw.sep he h0 hj x hx ((h2 x).2 hxb)
    · exact hw.apart _ he x hx (hS R w' hw.asn x ⟨hl, hxb⟩).1
  · exact hl
end Go.SX
/- SxZa -/
namespace Go.SX
open Go.RowKit

/-! ### A slice in a box, handed on by its box: functions that write it, and may give it new room -/
/-- the blocks that were there, but for some -/
def othF (w : World) (F : Nat → Prop) : Nat → Prop := fun x => x < w.heap.size ∧ ¬ F x
/-- all but some blocks stand as they did -/
def restF (w0 : World) (F : Nat → Prop) : Asn where
  holds R w := ∀ x, othF w0 F x → R x ∧ w.heap[x]? = w0.heap[x]?
  stable := fun hR hw h x hx => ⟨hR x (h x hx).1, (hw x (h x hx).1).trans (h x hx).2⟩

/-- at block b: a slice; its rows; F: the blocks of both -/
def SliceAt (T TE : TypeId) (k : Nat) (xs : List (List Value)) (b : Nat) (F : Nat → Prop) (w : World) : Prop :=
  ∃ (v : Loc) (G : Nat → Prop), w.heap[b]? = some (.cells #[.slice v.base xs.length v.cap] T (0, 0)) ∧ (∀ x, F x ↔ x = b ∨ G x) ∧ ¬ G b ∧ (Ent.rows xs k TE).holds (fun _ => v) v G w
theorem SliceAt.stable {T TE : TypeId} {k : Nat} {xs : List (List Value)} {b : Nat} {F : Nat → Prop} {w w' : World} (hf : ∀ x, F x → w'.heap[x]? = w.heap[x]?) (h : SliceAt T TE k xs b F w) : SliceAt T TE k xs b F w' := by
  obtain ⟨v, G, h1, h2, h3, h4⟩ := h
  exact ⟨v, G, by rw [hf b ((h2 b).2 (.inl rfl))]; exact h1, h2, h3, Ent.stable (fun x hx => hf x ((h2 x).2 (.inr hx))) h4⟩
theorem SliceAt.size {T TE : TypeId} {k : Nat} {xs : List (List Value)} {b : Nat} {F : Nat → Prop} {w : World} (h : SliceAt T TE k xs b F w) {x : Nat} (hx : F x) : x < w.heap.size := by
  obtain ⟨v, G, h1, h2, h3, h4⟩ := h
  rcases (h2 x).1 hx with rfl | hx
  · exact lt_size_of_some h1
  · exact Ent.size h4 hx
def sliceO (T TE : TypeId) (k : Nat) (xs : List (List Value)) : Own where
  holds l F w := ∃ b, l.base = some ⟨b, 0, none⟩ ∧ SliceAt T TE k xs b F w
  stable := fun hf ⟨b, h1, h2⟩ => ⟨b, h1, h2.stable hf⟩
  lt := fun ⟨_, _, h⟩ hx => h.size hx

/-- what a call leaves that was handed such a slice -/
def SlicePost {α : Type} (w : World) (b : Nat) (F : Nat → Prop) (T TE : TypeId) (k : Nat) (val : α → Value) (rows : α → List (List Value)) (p : α → Prop) (e : Ending) (w' : World) : Prop :=
  ∃ x, p x ∧ e = .returned (val x) ∧ Step F w w' ∧ ∃ F' : Nat → Prop, (∀ y, F' y → F y ∨ w.heap.size ≤ y) ∧ SliceAt T TE k (rows x) b F' w'

/-- an entry written, its blocks among its own and new ones -/
theorem AbsR.move {B : Base} {R : Nat → Prop} {φ : Nat → Nat → Prop} {ρ : Nat → Loc} {nx : Nat} {H : Heap} {S : Asn} {w w' : World} {i : Nat} {e e' : Ent} (h : AbsR B R φ ρ nx H S w) (hi : (i, e) ∈ H) (hlt : e'.lt nx) {F' : Nat → Prop}
    (hs : Step (φ i) w w') (hF : ∀ y, F' y → φ i y ∨ w.heap.size ≤ y) (he' : e'.holds ρ (ρ i) F' w') : AbsR B R (fun j => if j = i then F' else φ j) ρ nx (setH i e' H) S w' := by
  have hR : ∀ b, R b → ¬ φ i b := fun b hb hb' => h.apart _ hi b hb' hb
  have hk : ((setH i e' H).map (·.1)).Pairwise (· ≠ ·) := by rw [keys_setH]; exact List.pairwise_map.2 (h.sep.imp fun x => x.1)
  have hk' : (setH i e' H).Pairwise fun p q => p.1 ≠ q.1 ∧ True := (List.pairwise_map.1 hk).imp fun x => ⟨x, trivial⟩
  have mem : ∀ p ∈ setH i e' H, p = (i, e') ∨ (p.1 ≠ i ∧ p ∈ H) := by
    intro p hp
    obtain ⟨pi, pe⟩ := p
    by_cases hpi : pi = i
    · subst hpi
      have : pe = e' := keys_unique hk' hp (mem_setH_self hi)
      subst this
      exact .inl rfl
    · rcases mem_setH hp with ⟨h1, _⟩ | h1
      · exact absurd (by simpa using congrArg Prod.fst h1) hpi
      · exact .inr ⟨hpi, h1⟩
  refine ⟨hs.os.trans h.os, hs.tape.trans h.tape, hs.output.trans h.output, Nat.le_trans h.size hs.size, h.pin, fun b hb => Nat.lt_of_lt_of_le (h.ro b hb) hs.size,
    S.stable (fun _ hb => hb) (fun b hb => hs.block b (h.ro b hb) (hR b hb)) h.asn, ?_, ?_, ?_, ?_⟩
  · intro p hp
    rcases mem p hp with rfl | ⟨_, hp⟩
    · exact ⟨(h.key _ hi).1, hlt⟩
    · exact h.key p hp
  · intro p hp
    rcases mem p hp with rfl | ⟨hne, hp⟩
    · simp only [if_true]; exact he'
    · simp only [if_neg hne]
      exact Ent.stable (fun b hb => hs.block b (Ent.size (h.ent p hp) hb) (sep_two h.sep hp hi hne b hb)) (h.ent p hp)
  · intro p hp b hb
    rcases mem p hp with rfl | ⟨hne, hp⟩
    · simp only [if_true] at hb
      rcases hF b hb with hb | hb
      · exact h.apart _ hi b hb
      · intro hRb; have := h.ro b hRb; omega
    · simp only [if_neg hne] at hb
      exact h.apart p hp b hb
  · refine List.Pairwise.imp_of_mem (R := fun p q => p.1 ≠ q.1) (fun {p q} hp hq hpq => ⟨hpq, fun b hb hb' => ?_⟩) (List.pairwise_map.1 hk)
    rcases mem p hp with rfl | ⟨hpn, hp⟩ <;> rcases mem q hq with rfl | ⟨hqn, hq⟩
    · exact hpq rfl
    · simp only [if_true, if_neg hqn] at hb hb'
      rcases hF b hb with hb | hb
      · exact sep_two h.sep hi hq hpq b hb hb'
      · have := Ent.size (h.ent q hq) hb'; omega
    · simp only [if_true, if_neg hpn] at hb hb'
      rcases hF b hb' with hb' | hb'
      · exact sep_two h.sep hp hi hpq b hb hb'
      · have := Ent.size (h.ent p hp) hb; omega
    · simp only [if_neg hpn, if_neg hqn] at hb hb'
      exact sep_two h.sep hp hq hpq b hb hb'

/-- A CALL THAT IS HANDED SUCH A SLICE -/
theorem call_slice {cx : Cx} {f : FuncId} {args : List SV} {H : Heap} {S : Asn} {nx i : Nat} {K : SV → Heap → Asn → Nat → Prop} {T TE : TypeId} {k : Nat} {xs : List (List Value)} (hi : (i, Ent.ext (sliceO T TE k xs)) ∈ H)
    (hf : ∀ ar w, (callFunc f ar).run cx.P w = .ok (.enter f ar) w) {α : Type} (val : α → Value) (rows : α → List (List Value)) (p : α → Prop)
    (hc : ∀ ρ w b F, Abs cx.B ρ nx H S w → (∀ j cells T', (j, Ent.box cells T') ∈ H → j ≠ i → ∃ c, (ρ j).base = some ⟨c, 0, none⟩ ∧ w.heap[c]? = some (.cells (SV.rfs ρ cells).toArray T' (0, 0)) ∧ ¬ F c) →
      (ρ i).base = some ⟨b, 0, none⟩ → SliceAt T TE k xs b F w → Calls cx.P f (SV.rfs ρ args).toArray w (SlicePost w b F T TE k val rows p))
    (h : ∀ x, p x → K (.c (val x)) (setH i (.ext (sliceO T TE k (rows x))) H) S nx) : callK cx f args H S nx K := by
  rw [callK_def]
  refine ⟨hf, fun ρ w hw => ?_⟩
  have hw0 := hw
  obtain ⟨R, φ, hwR⟩ := hw
  obtain ⟨b, h1, h2⟩ := hwR.ent _ hi
  refine (hc ρ w b (φ i) hw0 (fun j cells T' hj hne => ?_) h1 h2).mono ?_
  · obtain ⟨c, g1, g2, g3⟩ := hwR.ent _ hj
    exact ⟨c, g1, g3, fun hFc => sep_two hwR.sep hj hi hne c ((g2 c).2 rfl) hFc⟩
  · rintro e w' ⟨x, hp, rfl, hs, F', hF, hsl⟩
    have h' := hwR.move hi (e' := .ext (sliceO T TE k (rows x))) (fun y hy => by simp [Ent.hass] at hy) hs hF ⟨b, h1, hsl⟩
    exact ⟨.c (val x), ρ, _, _, nx, rfl, fun _ _ => rfl, Nat.le_refl _, SV.lt_c _, ⟨R, _, h'⟩, h x hp⟩

/-! A function's beginning and end, with such a slice: looked into -/
theorem abs_slice {T TE : TypeId} {k : Nat} {xs : List (List Value)} {b : Nat} {F : Nat → Prop} {w : World} (h : SliceAt T TE k xs b F w) :
    ∃ v : Loc, Abs ⟨w, [(0, boxL b)]⟩ (fun i => if i = 0 then boxL b else v) 2 [(0, .box [.os 1 xs.length] T), (1, .rows xs k TE)] (restF w F) w := by
  obtain ⟨v, G, h1, h2, h3, h4⟩ := h
  refine ⟨v, othF w F, fun i x => if i = 0 then x = b else G x, rfl, rfl, rfl, Nat.le_refl _, ?_, fun x hx => hx.1, fun x hx => ⟨hx, rfl⟩, ?_, ?_, ?_, ?_⟩
  · intro p hp; simp at hp; subst hp; exact ⟨(show (0:Nat) < 2 by decide), rfl⟩
  · intro p hp
    simp at hp
    rcases hp with rfl | rfl
    · exact ⟨(show (0:Nat) < 2 by decide), fun i hi => by simp [Ent.hass, SV.hass, SV.has] at hi; show i < 2; omega⟩
    · exact ⟨(show (1:Nat) < 2 by decide), fun i hi => by simp [Ent.hass] at hi⟩
  · intro p hp
    simp at hp
    rcases hp with rfl | rfl
    · exact ⟨b, rfl, fun _ => Iff.rfl, by simpa [SV.rfs, SV.rf] using h1⟩
    · exact h4
  · intro p hp x hx hR
    simp at hp
    rcases hp with rfl | rfl
    · exact hR.2 ((h2 x).2 (.inl hx))
    · exact hR.2 ((h2 x).2 (.inr hx))
  · refine List.pairwise_cons.2 ⟨fun p hp => ?_, List.pairwise_singleton _ _⟩
    simp at hp
    subst hp
    exact ⟨(show (0:Nat) ≠ 1 by decide), fun x hx hx' => h3 (by simp at hx hx'; subst hx; exact hx')⟩
theorem rows_take {TE : TypeId} {k : Nat} {xs : List (List Value)} {ρ ρ' : Nat → Loc} {l : Loc} {G : Nat → Prop} {w : World} (n : Nat) (h : (Ent.rows xs k TE).holds ρ l G w) : (Ent.rows (xs.take n) k TE).holds ρ' l G w := by
  obtain ⟨h1, h2, h3⟩ := h
  refine ⟨fun r hr => h1 r (List.mem_of_mem_take hr), by simp; omega, ?_⟩
  rcases h3 with h3 | ⟨b, off, c, g1, g2, g3, g4, g5⟩
  · exact .inl h3
  · refine .inr ⟨b, off, c, g1, g2, g3, g4, fun i r hi => g5 i r ?_⟩
    rw [List.getElem?_take] at hi
    split at hi
    · exact hi
    · cases hi
theorem slice_end {T TE : TypeId} {k n j : Nat} {xs : List (List Value)} {b : Nat} {F : Nat → Prop} {w w' : World} {ρ : Nat → Loc} {nx : Nat} {H : Heap} {S : Asn} (hw : Abs ⟨w, [(0, boxL b)]⟩ ρ nx H S w') (hS : ∀ R w', S.holds R w' → (restF w F).holds R w')
    (h0 : (0, Ent.box [.os j n] T) ∈ H) (hj : (j, Ent.rows xs k TE) ∈ H) (hne : j ≠ 0) (hn : n ≤ xs.length) (hFb : F b) : Step F w w' ∧ ∃ F' : Nat → Prop, (∀ y, F' y → F y ∨ w.heap.size ≤ y) ∧ SliceAt T TE k (xs.take n) b F' w' := by
  obtain ⟨R, φ, hw⟩ := hw
  have hp := (hw.pin (0, boxL b) List.mem_cons_self).2
  obtain ⟨b', h1, h2, h3⟩ := hw.ent _ h0
  simp only at hp h1
  rw [hp] at h1
  obtain rfl : b = b' := by simpa [boxL] using h1
  have hrest := hS R w' hw.asn
  refine ⟨⟨hw.os, hw.tape, hw.output, hw.size, fun x hx hne => (hrest x ⟨hx, hne⟩).2⟩, fun x => x = b ∨ φ j x, ?_, ρ j, φ j, ?_, fun _ => Iff.rfl, ?_, rows_take n (hw.ent _ hj)⟩
  · rintro y (rfl | hy)
    · exact .inl hFb
    · rcases Nat.lt_or_ge y w.heap.size with hl | hl
      · by_cases hFy : F y
        · exact .inl hFy
        · exact absurd (hrest y ⟨hl, hFy⟩).1 (hw.apart _ hj y hy)
      · exact .inr hl
  · have : (xs.take n).length = n := by simp; omega
    rw [this]; simpa [SV.rfs, SV.rf] using h3
  · intro hG
    exact sep_two hw.sep hj h0 hne b hG ((h2 b).2 rfl)
theorem SliceAt.at {T TE : TypeId} {k : Nat} {xs : List (List Value)} {b : Nat} {F : Nat → Prop} {w : World} (h : SliceAt T TE k xs b F w) : F b := by
  obtain ⟨v, G, h1, h2, h3, h4⟩ := h
  exact (h2 b).2 (.inl rfl)
/-! likewise: not looked into -/
theorem abs_ext {T TE : TypeId} {k : Nat} {xs : List (List Value)} {b : Nat} {F : Nat → Prop} {w : World} (h : SliceAt T TE k xs b F w) :
    Abs ⟨w, [(0, boxL b)]⟩ (fun _ => boxL b) 1 [(0, .ext (sliceO T TE k xs))] (restF w F) w := by
  refine ⟨othF w F, fun _ => F, rfl, rfl, rfl, Nat.le_refl _, ?_, fun x hx => hx.1, fun x hx => ⟨hx, rfl⟩, ?_, ?_, ?_, ?_⟩
  · intro p hp; simp at hp; subst hp; exact ⟨Nat.lt_succ_self _, rfl⟩
  · intro p hp; simp at hp; subst hp; exact ⟨Nat.lt_succ_self _, fun i hi => by simp [Ent.hass] at hi⟩
  · intro p hp; simp at hp; subst hp; exact ⟨b, rfl, h⟩
  · intro p hp x hx hR; exact hR.2 hx
  · exact List.pairwise_singleton _ _
theorem ext_end {T TE : TypeId} {k i : Nat} {xs : List (List Value)} {b : Nat} {F : Nat → Prop} {w w' : World} {ρ : Nat → Loc} {nx : Nat} {H : Heap} {S : Asn} {pins : List (Nat × Loc)} (hw : Abs ⟨w, pins⟩ ρ nx H S w') (hpin : (i, boxL b) ∈ pins) (hS : ∀ R w', S.holds R w' → (restF w F).holds R w')
    (h0 : (i, Ent.ext (sliceO T TE k xs)) ∈ H) : Step F w w' ∧ ∃ F' : Nat → Prop, (∀ y, F' y → F y ∨ w.heap.size ≤ y) ∧ SliceAt T TE k xs b F' w' := by
  obtain ⟨R, φ, hw⟩ := hw
  have hp := (hw.pin (i, boxL b) hpin).2
  obtain ⟨b', h1, h2⟩ := hw.ent _ h0
  simp only at hp h1
  rw [hp] at h1
  obtain rfl : b = b' := by simpa [boxL] using h1
  have hrest := hS R w' hw.asn
  refine ⟨⟨hw.os, hw.tape, hw.output, hw.size, fun x hx hne => (hrest x ⟨hx, hne⟩).2⟩, φ i, fun y hy => ?_, h2⟩
  rcases Nat.lt_or_ge y w.heap.size with hl | hl
  · by_cases hFy : F y
    · exact .inl hFy
    · exact absurd (hrest y ⟨hl, hFy⟩).1 (hw.apart _ h0 y hy)
  · exact .inr hl
/-! a closure that has the box of an interface over such a slice -/
theorem abs_cap {T TE T' t : TypeId} {k : Nat} {xs : List (List Value)} {b c : Nat} {F : Nat → Prop} {w : World} (h : SliceAt T TE k xs b F w) (hc : w.heap[c]? = some (.cells #[.iface t (.pointer (some ⟨b, 0, none⟩))] T' (0, 0))) (hn : ¬ F c) :
    Abs ⟨w, [(0, boxL b), (1, boxL c)]⟩ (fun i => if i = 0 then boxL b else boxL c) 2 [(0, .ext (sliceO T TE k xs)), (1, .box [.ifc t (.lp 0 0 0 0)] T')] (restF w (fun x => F x ∨ x = c)) w := by
  refine ⟨othF w (fun x => F x ∨ x = c), fun i x => if i = 0 then F x else x = c, rfl, rfl, rfl, Nat.le_refl _, ?_, fun x hx => hx.1, fun x hx => ⟨hx, rfl⟩, ?_, ?_, ?_, ?_⟩
  · intro p hp; simp at hp; rcases hp with rfl | rfl
    · exact ⟨(show (0:Nat) < 2 by decide), rfl⟩
    · exact ⟨(show (1:Nat) < 2 by decide), rfl⟩
  · intro p hp; simp at hp; rcases hp with rfl | rfl
    · exact ⟨(show (0:Nat) < 2 by decide), fun i hi => by simp [Ent.hass] at hi⟩
    · exact ⟨(show (1:Nat) < 2 by decide), fun i hi => by simp [Ent.hass, SV.hass, SV.has] at hi; show i < 2; omega⟩
  · intro p hp; simp at hp; rcases hp with rfl | rfl
    · exact ⟨b, rfl, h⟩
    · exact ⟨c, rfl, fun _ => Iff.rfl, by simpa [SV.rfs, SV.rf, boxL, add_none] using hc⟩
  · intro p hp x hx hR; simp at hp; rcases hp with rfl | rfl
    · exact hR.2 (.inl hx)
    · exact hR.2 (.inr hx)
  · refine List.pairwise_cons.2 ⟨fun p hp => ?_, List.pairwise_singleton _ _⟩
    simp at hp
    subst hp
    exact ⟨(show (0:Nat) ≠ 1 by decide), fun x hx hx' => hn (by simp at hx hx'; subst hx'; exact hx)⟩
theorem cap_end {T TE T' t : TypeId} {k : Nat} {xs : List (List Value)} {b c : Nat} {F : Nat → Prop} {w w' : World} {ρ : Nat → Loc} {nx : Nat} {H : Heap} {S : Asn} (hc : w.heap[c]? = some (.cells #[.iface t (.pointer (some ⟨b, 0, none⟩))] T' (0, 0))) (hw : Abs ⟨w, [(0, boxL b), (1, boxL c)]⟩ ρ nx H S w') (hS : ∀ R w', S.holds R w' → (restF w (fun x => F x ∨ x = c)).holds R w')
    (h0 : (0, Ent.ext (sliceO T TE k xs)) ∈ H) (h1 : (1, Ent.box [.ifc t (.lp 0 0 0 0)] T') ∈ H) : Step F w w' ∧ ∃ F' : Nat → Prop, (∀ y, F' y → F y ∨ w.heap.size ≤ y) ∧ SliceAt T TE k xs b F' w' := by
  obtain ⟨hst, F', hF', hsl⟩ := ext_end (F := fun x => F x ∨ x = c) hw List.mem_cons_self hS h0
  obtain ⟨R, φ, hw⟩ := hw
  have hp0 := (hw.pin (0, boxL b) List.mem_cons_self).2
  have hp1 := (hw.pin (1, boxL c) (List.mem_cons_of_mem _ List.mem_cons_self)).2
  obtain ⟨c', g1, g2, g3⟩ := hw.ent _ h1
  simp only at hp0 hp1 g1
  rw [hp1] at g1
  obtain rfl : c = c' := by simpa [boxL] using g1
  obtain ⟨b', k1, k2⟩ := hw.ent _ h0
  simp only at k1
  rw [hp0] at k1
  obtain rfl : b = b' := by simpa [boxL] using k1
  have hcs := lt_size_of_some hc
  have hrest := hS R w' hw.asn
  refine ⟨⟨hst.os, hst.tape, hst.output, hst.size, fun x hx hne => ?_⟩, φ 0, fun y hy => ?_, k2⟩
  · by_cases hxc : x = c
    · subst hxc
      rw [hc, g3]
      simp [SV.rfs, SV.rf, hp0, boxL, add_none]
    · exact hst.block x hx (fun h => h.elim hne hxc)
  · rcases Nat.lt_or_ge y w.heap.size with hl | hl
    · by_cases hyc : y = c
      · exact absurd ((g2 y).2 hyc) (sep_two hw.sep h0 h1 (show (0:Nat) ≠ 1 by decide) y hy)
      · by_cases hFy : F y
        · exact .inl hFy
        · exact absurd (hrest y ⟨hl, fun h => h.elim hFy hyc⟩).1 (hw.apart _ h0 y hy)
    · exact .inr hl
/-! ### Methods of such a slice, by an interface over its box -/
def methodAt (P : Program) (t : TypeId) (name : String) : Option (Nat × Option (FuncId × Bool)) := (P.info? t).bind fun i => (i.methods.find? (·.name == name)).map fun m => (m.path.size, m.func)
theorem methodAt_spec {P : Program} {t : TypeId} {name : String} {x : Option (FuncId × Bool)} (h : methodAt P t name = some (0, x)) : ∃ i mm, P.info? t = some i ∧ i.methods.find? (·.name == name) = some mm ∧ mm.path = #[] ∧ mm.func = x := by
  unfold methodAt at h
  cases hi : P.info? t with
  | none => rw [hi] at h; cases h
  | some i =>
    rw [hi, Option.bind_some] at h
    cases hm : i.methods.find? (·.name == name) with
    | none => rw [hm] at h; cases h
    | some mm =>
      rw [hm] at h
      simp only [Option.map_some, Option.some.injEq, Prod.mk.injEq] at h
      exact ⟨i, mm, rfl, hm, Array.size_eq_zero_iff.1 h.1, h.2⟩
theorem method_ptr {P : Program} {t e : TypeId} {v : Value} {name : String} {f : FuncId} {n : Nat} (hm : methodAt P t name = some (0, some (f, true))) (hu : P.underlying t = some (.pointer e)) (w : World) :
    (method (n + 1) t v name).run P w = .ok (f, v) w := by
  obtain ⟨i, mm, hi, hm, hp, hf⟩ := methodAt_spec hm
  simp [method, typeInfo, hi, hm, hp, hf, follow, receiverAt, run_underlying hu, Place.get]
theorem method_val {P : Program} {t e : TypeId} {name : String} {f : FuncId} {n : Nat} {ti : TI} (hm : methodAt P t name = some (0, some (f, false))) (hu : P.underlying t = some (.pointer e)) (he : mkTI P e = some ti) (hag : ti.agg = false) {a : Addr} {v : Value} (w : World) (hc : w.cell? a = some v) :
    (method (n + 1) t (.pointer (some a)) name).run P w = .ok (f, v) w := by
  obtain ⟨i, mm, hi, hm, hp, hf⟩ := methodAt_spec hm
  have h1 := run_loadVar_one he hag hc
  have h2 : ∀ s : String, Builtin.ssaWrapNilChk_ #[t] t #[.pointer (some a), strVal "", strVal s] = pure (.pointer (some a)) := fun s => rfl
  simp [method, typeInfo, hi, hm, hp, hf, follow, receiverAt, run_underlying hu, Place.get, h2, asAddr, h1]
theorem SliceAt.cell {T TE : TypeId} {k : Nat} {xs : List (List Value)} {b : Nat} {F : Nat → Prop} {w : World} (h : SliceAt T TE k xs b F w) : ∃ (v : Loc) (G : Nat → Prop), w.cell? ⟨b, 0, none⟩ = some (.slice v.base xs.length v.cap) ∧ (∀ x, F x ↔ x = b ∨ G x) ∧ ¬ G b ∧ (Ent.rows xs k TE).holds (fun _ => v) v G w := by
  obtain ⟨v, G, h1, h2, h3, h4⟩ := h
  exact ⟨v, G, by simp [World.cell?, h1], h2, h3, h4⟩
/-- a method that is called by the interface -/
theorem invoke_slice {cx : Cx} {t : TypeId} {m : String} {args : List SV} {H : Heap} {S : Asn} {nx i : Nat} {K : SV → Heap → Asn → Nat → Prop} {T TE : TypeId} {k : Nat} {xs : List (List Value)} (hi : (i, Ent.ext (sliceO T TE k xs)) ∈ H) {α : Type} (val : α → Value) (rows : α → List (List Value)) (p : α → Prop)
    (hc : ∀ ρ w b F, SliceAt T TE k xs b F w → ∃ f vr, (method (cx.P.types.size + Made.depth) t (.pointer (some ⟨b, 0, none⟩)) m).run cx.P w = .ok (f, vr) w ∧ (∀ as w, (callFunc f as).run cx.P w = .ok (.enter f as) w) ∧
      Calls cx.P f (vr :: SV.rfs ρ args).toArray w (SlicePost w b F T TE k val rows p))
    (h : ∀ x, p x → K (.c (val x)) (setH i (.ext (sliceO T TE k (rows x))) H) S nx) : invokeK cx t (.lp i 0 0 0) m args H S nx K := by
  rw [invokeK_def]
  intro ρ w hw
  obtain ⟨R, φ, hwR⟩ := hw
  obtain ⟨b, h1, h2⟩ := hwR.ent _ hi
  obtain ⟨f, vr, g1, g2, g3⟩ := hc ρ w b (φ i) h2
  refine ⟨f, vr, ?_, g2, g3.mono ?_⟩
  · simp only at h1
    simp only [SV.rf, h1, Option.map_some, add_none]
    exact g1
  · rintro e w' ⟨x, hp, rfl, hs, F', hF, hsl⟩
    have h' := hwR.move hi (e' := .ext (sliceO T TE k (rows x))) (fun y hy => by simp [Ent.hass] at hy) hs hF ⟨b, h1, hsl⟩
    exact ⟨.c (val x), ρ, _, _, nx, rfl, fun _ _ => rfl, Nat.le_refl _, SV.lt_c _, ⟨R, _, h'⟩, h x hp⟩
theorem delH_apart {φ : Nat → Nat → Prop} {i : Nat} : ∀ {H : Heap}, H.Pairwise (fun p q => p.1 ≠ q.1 ∧ ∀ b, φ p.1 b → ¬ φ q.1 b) → ∀ {e : Ent}, (i, e) ∈ H → ∀ p ∈ delH i H, p.1 ≠ i
  | [], _, e, he, _, _ => by cases he
  | (qi, qe) :: r, hsep, e, he, p, hp => by
    obtain ⟨hq, hr⟩ := List.pairwise_cons.1 hsep
    unfold delH at hp
    cases hbq : Nat.beq qi i with
    | true =>
      rw [hbq, cond_true] at hp
      have := Nat.eq_of_beq_eq_true hbq
      subst this
      exact (hq p hp).1.symm
    | false =>
      rw [hbq, cond_false] at hp
      have hne := Nat.ne_of_beq_eq_false hbq
      have her : (i, e) ∈ r := (List.mem_cons.1 he).resolve_left (fun g => hne (by simpa using congrArg Prod.fst g.symm))
      rcases List.mem_cons.1 hp with g | g
      · subst g; exact hne
      · exact delH_apart hr her p g
theorem mem_delH {i : Nat} : ∀ {H : Heap} {p : Nat × Ent}, p ∈ H → p.1 ≠ i → p ∈ delH i H
  | [], p, h, _ => by cases h
  | (qi, qe) :: r, p, h, hne => by
    unfold delH
    cases hbq : Nat.beq qi i with
    | true =>
      rw [cond_true]
      have := Nat.eq_of_beq_eq_true hbq
      subst this
      exact (List.mem_cons.1 h).resolve_left (fun g => hne (by rw [g]))
    | false =>
      rw [cond_false]
      rcases List.mem_cons.1 h with g | g
      · rw [g]; exact List.mem_cons_self
      · exact List.mem_cons_of_mem _ (mem_delH g hne)
/-- an entry's make changed in a world, its blocks among those of two -/
theorem AbsR.pack {B : Base} {R : Nat → Prop} {φ : Nat → Nat → Prop} {ρ : Nat → Loc} {nx : Nat} {H : Heap} {S : Asn} {w : World} {i j : Nat} {e d e' : Ent} (h : AbsR B R φ ρ nx H S w) (hi : (i, e) ∈ H) (hj : (j, d) ∈ H) (hij : i ≠ j) (hlt : e'.lt nx)
    (he' : e'.holds ρ (ρ i) (fun x => φ i x ∨ φ j x) w) : AbsR B R (fun y => if y = i then (fun x => φ i x ∨ φ j x) else φ y) ρ nx (setH i e' (delH j H)) S w := by
  have hd := h.drop (delH_sublist j H)
  have hiD : (i, e) ∈ delH j H := mem_delH hi hij
  have hkD := delH_apart h.sep hj
  have hk : ((setH i e' (delH j H)).map (·.1)).Pairwise (· ≠ ·) := by rw [keys_setH]; exact List.pairwise_map.2 (hd.sep.imp fun x => x.1)
  have hk' : (setH i e' (delH j H)).Pairwise fun p q => p.1 ≠ q.1 ∧ True := (List.pairwise_map.1 hk).imp fun x => ⟨x, trivial⟩
  have mem : ∀ p ∈ setH i e' (delH j H), p = (i, e') ∨ (p.1 ≠ i ∧ p ∈ delH j H) := by
    intro p hp
    obtain ⟨pi, pe⟩ := p
    by_cases hpi : pi = i
    · subst hpi
      have : pe = e' := keys_unique hk' hp (mem_setH_self hiD)
      subst this
      exact .inl rfl
    · rcases mem_setH hp with ⟨h1, _⟩ | h1
      · exact absurd (by simpa using congrArg Prod.fst h1) hpi
      · exact .inr ⟨hpi, h1⟩
  have hsub : ∀ p ∈ delH j H, p ∈ H := fun p hp => (delH_sublist j H).subset hp
  refine ⟨h.os, h.tape, h.output, h.size, h.pin, h.ro, h.asn, ?_, ?_, ?_, ?_⟩
  · intro p hp
    rcases mem p hp with rfl | ⟨_, hp⟩
    · exact ⟨(h.key _ hi).1, hlt⟩
    · exact h.key p (hsub p hp)
  · intro p hp
    rcases mem p hp with rfl | ⟨hne, hp⟩
    · simp only [if_true]; exact he'
    · simp only [if_neg hne]; exact h.ent p (hsub p hp)
  · intro p hp b hb
    rcases mem p hp with rfl | ⟨hne, hp⟩
    · simp only [if_true] at hb
      exact hb.elim (h.apart _ hi b) (h.apart _ hj b)
    · simp only [if_neg hne] at hb
      exact h.apart p (hsub p hp) b hb
  · refine List.Pairwise.imp_of_mem (R := fun p q => p.1 ≠ q.1) (fun {p q} hp hq hpq => ⟨hpq, fun b hb hb' => ?_⟩) (List.pairwise_map.1 hk)
    rcases mem p hp with rfl | ⟨hpn, hp⟩ <;> rcases mem q hq with rfl | ⟨hqn, hq⟩
    · exact hpq rfl
    · simp only [if_true, if_neg hqn] at hb hb'
      rcases hb with hb | hb
      · exact sep_two h.sep hi (hsub q hq) hpq b hb hb'
      · exact sep_two h.sep hj (hsub q hq) (fun e => hkD q hq e.symm) b hb hb'
    · simp only [if_true, if_neg hpn] at hb hb'
      rcases hb' with hb' | hb'
      · exact sep_two h.sep (hsub p hp) hi hpq b hb hb'
      · exact sep_two h.sep (hsub p hp) hj (hkD p hp) b hb hb'
    · simp only [if_neg hpn, if_neg hqn] at hb hb'
      exact sep_two h.sep (hsub p hp) (hsub q hq) hpq b hb hb'
/-- a box of one's own rows is such a slice -/
theorem Wp.pack {cx : Cx} {c : Code} {env : Env} {H : Heap} {S : Asn} {nx : Nat} {K : Exit → Env → Heap → Asn → Nat → Prop} (i j : Nat) {T TE : TypeId} {k n : Nat} {xs : List (List Value)} (hi : (i, Ent.box [.os j n] T) ∈ H) (hj : (j, Ent.rows xs k TE) ∈ H) (hn : n = xs.length) (hij : i ≠ j)
    (h : Wp cx c env (setH i (.ext (sliceO T TE k xs)) (delH j H)) S nx K) : Wp cx c env H S nx K := by
  refine ⟨fun ρ a w hs hw => h.out ρ a w hs ?_⟩
  obtain ⟨R, φ, hw⟩ := hw
  obtain ⟨b, h1, h2, h3⟩ := hw.ent _ hi
  subst hn
  refine ⟨R, _, hw.pack hi hj hij (fun y hy => by simp [Ent.hass] at hy) ⟨b, h1, ρ j, φ j, by simpa [SV.rfs, SV.rf] using h3, fun x => or_congr (h2 x) Iff.rfl, fun hb => sep_two hw.sep hi hj hij b ((h2 b).2 rfl) hb, hw.ent _ hj⟩⟩
/-- and back: looked into -/
theorem Wp.unpack {cx : Cx} {c : Code} {env : Env} {H : Heap} {S : Asn} {nx : Nat} {K : Exit → Env → Heap → Asn → Nat → Prop} (i : Nat) {T TE : TypeId} {k : Nat} {xs : List (List Value)} (hi : (i, Ent.ext (sliceO T TE k xs)) ∈ H)
    (h : Wp cx c env ((nx, .rows xs k TE) :: setH i (.box [.os nx xs.length] T) H) S (nx + 1) K) : Wp cx c env H S nx K := by
  rw [Wp_def] at h ⊢
  intro ρ a w hs hw
  obtain ⟨R, φ, hw⟩ := hw
  obtain ⟨b, h1, v, G, h2, h3, h4, h5⟩ := hw.ent _ hi
  simp only at h1 h3
  have hk : ((setH i (Ent.box [.os nx xs.length] T) H).map (·.1)).Pairwise (· ≠ ·) := by rw [keys_setH]; exact List.pairwise_map.2 (hw.sep.imp fun x => x.1)
  have hk' : (setH i (Ent.box [.os nx xs.length] T) H).Pairwise fun p q => p.1 ≠ q.1 ∧ True := (List.pairwise_map.1 hk).imp fun x => ⟨x, trivial⟩
  have mem : ∀ p ∈ setH i (Ent.box [.os nx xs.length] T) H, p = (i, .box [.os nx xs.length] T) ∨ (p.1 ≠ i ∧ p ∈ H) := by
    intro p hp
    obtain ⟨pi, pe⟩ := p
    by_cases hpi : pi = i
    · subst hpi
      have : pe = .box [.os nx xs.length] T := keys_unique hk' hp (mem_setH_self hi)
      subst this
      exact .inl rfl
    · rcases mem_setH hp with ⟨h1, _⟩ | h1
      · exact absurd (by simpa using congrArg Prod.fst h1) hpi
      · exact .inr ⟨hpi, h1⟩
  have hin : i < nx := (hw.key _ hi).1
  have hi_ne : i ≠ nx := by omega
  have hbF : φ i b := (h3 b).2 (.inl rfl)
  have hGF : ∀ x, G x → φ i x := fun x hx => (h3 x).2 (.inr hx)
  have hs' : Sat cx.n (upd ρ nx v) (nx + 1) env a := ⟨hs.defers, hs.size, fun t u hu ht => by rw [hs.val t u hu ht, SV.rf_lt (hs.lt t u hu) (fun j hj => (upd_lt hj).symm)], fun t u hu => (hs.lt t u hu).mono (Nat.le_succ _)⟩
  have key := h (upd ρ nx v) a w hs' ⟨R, fun y => if y = nx then G else if y = i then (fun x => x = b) else φ y, hw.os, hw.tape, hw.output, hw.size, fun p hp => ⟨Nat.lt_succ_of_lt (hw.pin p hp).1, by rw [upd_lt (hw.pin p hp).1]; exact (hw.pin p hp).2⟩, hw.ro, hw.asn, ?_, ?_, ?_, ?_⟩
  · refine wp_mono key ?_
    rintro e a' w' ⟨ρ', env', H', S', nx', g1, g2, g3, g4, g5⟩
    exact ⟨ρ', env', H', S', nx', fun j hj => (g1 j (Nat.lt_succ_of_lt hj)).trans (upd_lt hj), Nat.le_trans (Nat.le_succ _) g2, g3, g4, g5⟩
  · intro p hp
    rcases List.mem_cons.1 hp with rfl | hp
    · exact ⟨Nat.lt_succ_self _, fun y hy => by simp [Ent.hass] at hy⟩
    · rcases mem p hp with rfl | ⟨_, hp⟩
      · exact ⟨Nat.lt_succ_of_lt hin, fun y hy => by simp [Ent.hass, SV.hass, SV.has] at hy; show y < nx + 1; omega⟩
      · exact ⟨Nat.lt_succ_of_lt (hw.key p hp).1, (hw.key p hp).2.mono (Nat.le_succ _)⟩
  · intro p hp
    rcases List.mem_cons.1 hp with rfl | hp
    · simp only [if_true, upd_same]; exact h5
    · rcases mem p hp with rfl | ⟨hne, hp⟩
      · simp only [if_neg hi_ne, if_true, upd_lt hin]
        exact ⟨b, h1, fun _ => Iff.rfl, by simpa [SV.rfs, SV.rf, upd_same] using h2⟩
      · have hlt := (hw.key p hp).1
        have hne' : p.1 ≠ nx := by omega
        simp only [if_neg hne', if_neg hne, upd_lt hlt]
        exact Ent.holds_congr (fun j hj => (upd_lt ((hw.key p hp).2 j hj)).symm) (hw.ent p hp)
  · intro p hp x hx
    rcases List.mem_cons.1 hp with rfl | hp
    · simp only [if_true] at hx; exact hw.apart _ hi x (hGF x hx)
    · rcases mem p hp with rfl | ⟨hne, hp⟩
      · simp only [if_neg hi_ne, if_true] at hx; subst hx; exact hw.apart _ hi x hbF
      · have hne' : p.1 ≠ nx := by have := (hw.key p hp).1; omega
        simp only [if_neg hne', if_neg hne] at hx
        exact hw.apart p hp x hx
  · refine List.pairwise_cons.2 ⟨fun p hp => ?_, ?_⟩
    · rcases mem p hp with rfl | ⟨hne, hp⟩
      · refine ⟨fun e => hi_ne e.symm, fun x hx hx' => ?_⟩
        simp only [if_true, if_neg hi_ne] at hx hx'
        subst hx'; exact h4 hx
      · have hne' : p.1 ≠ nx := by have := (hw.key p hp).1; omega
        refine ⟨fun e => hne' e.symm, fun x hx hx' => ?_⟩
        simp only [if_true, if_neg hne', if_neg hne] at hx hx'
        exact sep_two hw.sep hp hi hne x hx' (hGF x hx)
    · refine List.Pairwise.imp_of_mem (R := fun p q => p.1 ≠ q.1) (fun {p q} hp hq hpq => ⟨hpq, fun x hx hx' => ?_⟩) (List.pairwise_map.1 hk)
      rcases mem p hp with rfl | ⟨hpn, hp⟩ <;> rcases mem q hq with rfl | ⟨hqn, hq⟩
      · exact hpq rfl
      · have hne' : q.1 ≠ nx := by have := (hw.key q hq).1; omega
        simp only [if_neg hi_ne, if_true, if_neg hne', if_neg hqn] at hx hx'
        subst hx
        exact sep_two hw.sep hi hq hpq x hbF hx'
      · have hne' : p.1 ≠ nx := by have := (hw.key p hp).1; omega
        simp only [if_neg hi_ne, if_true, if_neg hne', if_neg hpn] at hx hx'
        subst hx'
        exact sep_two hw.sep hp hi hpq x hx hbF
      · have hne' : p.1 ≠ nx := by have := (hw.key p hp).1; omega
        have hne'' : q.1 ≠ nx := by have := (hw.key q hq).1; omega
        simp only [if_neg hne', if_neg hpn, if_neg hne'', if_neg hqn] at hx hx'
        exact sep_two hw.sep hp hq hpq x hx hx'
/-- a new box of a nil slice is such a slice -/
theorem Wp.slice {cx : Cx} {c : Code} {env : Env} {H1 H2 : Heap} {S : Asn} {nx i : Nat} {K : Exit → Env → Heap → Asn → Nat → Prop} {T : TypeId} (TE : TypeId) (k : Nat) (h : Wp cx c env (H1 ++ (i, .ext (sliceO T TE k [])) :: H2) S nx K) : Wp cx c env (H1 ++ (i, .box [.c (.slice none 0 0)] T) :: H2) S nx K := by
  refine ⟨fun ρ a w hs hw => h.out ρ a w hs ?_⟩
  obtain ⟨R, φ, hw⟩ := hw
  have conv : ∀ {Q : Nat × Ent → Prop}, (∀ p ∈ H1 ++ (i, Ent.box [.c (.slice none 0 0)] T) :: H2, Q p) → Q (i, .ext (sliceO T TE k [])) → ∀ p ∈ H1 ++ (i, Ent.ext (sliceO T TE k [])) :: H2, Q p := by
    intro Q hQ hq p hp
    rcases List.mem_append.1 hp with hp | hp
    · exact hQ p (List.mem_append.2 (.inl hp))
    · rcases List.mem_cons.1 hp with rfl | hp
      · exact hq
      · exact hQ p (List.mem_append.2 (.inr (List.mem_cons_of_mem _ hp)))
  have hm : (i, Ent.box [.c (.slice none 0 0)] T) ∈ H1 ++ (i, Ent.box [.c (.slice none 0 0)] T) :: H2 := by simp
  refine ⟨R, φ, hw.os, hw.tape, hw.output, hw.size, hw.pin, hw.ro, hw.asn, conv hw.key ⟨(hw.key _ hm).1, fun x hx => by simp [Ent.hass] at hx⟩, conv hw.ent ?_, conv hw.apart (fun b hb => hw.apart _ hm b hb), ?_⟩
  · obtain ⟨b, h1, h2, h3⟩ := hw.ent _ hm
    refine ⟨b, h1, ⟨none, 0⟩, fun _ => False, by simpa [SV.rfs, SV.rf] using h3, fun x => by simp [h2 x], fun h => h, by simp, by simp, .inl ⟨rfl, rfl, fun x h => h⟩⟩
  · have e1 : ((H1 ++ (i, Ent.box [.c (.slice none 0 0)] T) :: H2).map Prod.fst).Pairwise (fun a b => a ≠ b ∧ ∀ x, φ a x → ¬ φ b x) := List.pairwise_map.2 hw.sep
    rw [List.map_append, List.map_cons] at e1
    have e2 : (H1 ++ (i, Ent.ext (sliceO T TE k [])) :: H2).map Prod.fst = H1.map Prod.fst ++ i :: H2.map Prod.fst := by rw [List.map_append, List.map_cons]
    have e3 : ((H1 ++ (i, Ent.ext (sliceO T TE k [])) :: H2).map Prod.fst).Pairwise (fun a b => a ≠ b ∧ ∀ x, φ a x → ¬ φ b x) := by rw [e2]; exact e1
    exact List.pairwise_map.1 e3
end Go.SX
/- SxZb -/
namespace Go.SX
open Go.RowKit

/-! ### Bytes and strings -/
def byts (l : List Int) : List (List Value) := l.map fun x => [Value.int .u8 x]
theorem byts_length (l : List Int) : (byts l).length = l.length := by simp [byts]
theorem byts_get {l : List Int} {k : Nat} (h : k < l.length) : (byts l)[k]? = some [.int .u8 l[k]] := by simp [byts, h]
theorem byts_append (a b : List Int) : byts (a ++ b) = byts a ++ byts b := by simp [byts]
theorem byts_take (a : List Int) (n : Nat) : byts (a.take n) = (byts a).take n := by simp [byts, List.map_take]
def strOf (l : List Int) : ByteArray := l.foldl (fun r n => r.push (UInt8.ofNat n.toNat)) ByteArray.empty
theorem run_str {P : Program} {w : World} {s d e : TypeId} {base : Option Addr} {c : Nat} {bs : List Int} (hs : P.underlying s = some (.slice e)) (he : P.underlying e = some (.int .u8)) (hd : P.underlying d = some .string) (h : RowsI w base 1 (byts bs)) :
    (convert s d (.slice base bs.length c)).run P w = .ok (.string (strOf bs)) w := by
  rw [run_convert_bytes_string w s d e base _ c hs he hd]
  cases base with
  | none =>
    rcases h with h | ⟨a, ha, _⟩
    · have : bs = [] := by cases bs with | nil => rfl | cons x r => simp [byts] at h
      subst this
      simp [Conv.bytesToString, strOf]
    · cases ha
  | some a =>
    refine run_bytesToString w a bs.length c bs ?_
    have hc : ∀ j v, (bs.map (Value.int .u8))[j]? = some v → w.cell? (a.add j) = some v := by
      intro j v hj
      rw [List.getElem?_map] at hj
      cases hb : bs[j]? with
      | none => rw [hb] at hj; cases hj
      | some x =>
        rw [hb] at hj
        cases hj
        have hjl := (List.getElem?_eq_some_iff.1 hb).1
        rcases h with h | ⟨a', ha, h1⟩
        · have h0 : bs.length = 0 := by rw [← byts_length, h]; rfl
          omega
        · obtain rfl : a = a' := by simpa using ha
          have := h1 j [.int .u8 x] (by simp [byts, hb]) 0 _ rfl
          simpa using this
    have := run_loadCells_list (P := P) (w := w) a (bs.map (Value.int .u8)) hc
    simpa using this
theorem rows_in {TE : TypeId} {k : Nat} {xs : List (List Value)} {v : Loc} {G : Nat → Prop} {ρ : Nat → Loc} {w : World} (h : (Ent.rows xs k TE).holds ρ v G w) : RowsI w v.base k xs := by
  obtain ⟨_, hcap, h⟩ := h
  rcases h with ⟨h1, h2, _⟩ | ⟨b, off, c, h1, _, h3, h4, h5⟩
  · rw [h2] at hcap
    exact .inl (List.length_eq_zero_iff.1 (by omega))
  · refine .inr ⟨⟨b, off, none⟩, h1, fun i r hi j v hj => ?_⟩
    have := h5 i r hi j v hj
    rw [Nat.add_assoc] at this
    rw [add_none]
    simpa [World.cell?, h3] using this
/-- one's own bytes -/
theorem str_own {cx : Cx} {s d e T : TypeId} {i n : Nat} {H : Heap} {S : Asn} {K : SV → Prop} {bs : List Int} (hs : cx.P.underlying s = some (.slice e)) (he : cx.P.underlying e = some (.int .u8)) (hd : cx.P.underlying d = some .string) (hi : (i, Ent.rows (byts bs) 1 T) ∈ H) (hn : n = bs.length) (h : K (.c (.string (strOf bs)))) :
    strK cx s d (.os i n) H S K := by
  rw [strK_def]
  refine ⟨_, h, fun ρ nx w hw => ?_⟩
  subst hn
  obtain ⟨R, φ, hw⟩ := hw
  exact run_str hs he hd (rows_in (hw.ent _ hi))
/-- bytes that stay -/
theorem str_ro {cx : Cx} {s d e : TypeId} {base : Option Addr} {n c : Nat} {H : Heap} {S : Asn} {K : SV → Prop} {bs : List Int} (hs : cx.P.underlying s = some (.slice e)) (he : cx.P.underlying e = some (.int .u8)) (hd : cx.P.underlying d = some .string) (hr : ∀ R w, S.holds R w → RowsI w base 1 (byts bs)) (hn : n = bs.length) (h : K (.c (.string (strOf bs)))) :
    strK cx s d (.c (.slice base n c)) H S K := by
  rw [strK_def]
  refine ⟨_, h, fun ρ nx w hw => ?_⟩
  subst hn
  obtain ⟨R, φ, hw⟩ := hw
  exact run_str hs he hd (hr R w hw.asn)
theorem str_eql {P : Program} {t : TypeId} {ox oy : Operand} {a b : ByteArray} {K : SV → Prop} (hab : a = b) (h : K (.c (.bool true))) : pureK P (do eqGuard .eql t ox oy (.string a) (.string b); binOp .eql t (.string a) (.string b)) K := by
  rw [pureK_def]
  subst hab
  refine ⟨_, fun w => ?_, h⟩
  have h1 : (eqGuard .eql t ox oy (.string a) (.string a)).run P w = .ok () w := by unfold eqGuard; simp
  simp only [Sem.run_bind, h1, Result.andThen_ok]
  simp [binOp, Op.stringOp]
theorem str_neq {P : Program} {t : TypeId} {ox oy : Operand} {a b : ByteArray} {K : SV → Prop} (hab : a = b) (h : K (.c (.bool false))) : pureK P (do eqGuard .neq t ox oy (.string a) (.string b); binOp .neq t (.string a) (.string b)) K := by
  rw [pureK_def]
  subst hab
  refine ⟨_, fun w => ?_, h⟩
  have h1 : (eqGuard .neq t ox oy (.string a) (.string a)).run P w = .ok () w := by unfold eqGuard; simp
  simp only [Sem.run_bind, h1, Result.andThen_ok]
  simp [binOp, Op.stringOp]

/-! ### Numbers as bytes -/
theorem wrap_byte {z : Int} {K : Int → Prop} (h : K (z % 256)) : wrapK .u8 z K := by
  refine wrap_to ?_ h
  simp only [IntKind.wrap, IntKind.signed, IntKind.bits, Bool.false_and]
  have : (2 : Int) ^ 8 = 256 := by decide
  simp only [this]
  simp
theorem wrap_word {z : Int} {K : Int → Prop} (h : K (z % 18446744073709551616)) : wrapK .u64 z K := by
  refine wrap_to ?_ h
  simp only [IntKind.wrap, IntKind.signed, IntKind.bits, Bool.false_and]
  have : (2 : Int) ^ 64 = 18446744073709551616 := by decide
  simp only [this]
  simp
theorem shr_of {x y z : Int} {K : Int → Prop} (k : Nat) (hy : y = k) (hk : k ≤ 64) (hz : x / 2 ^ k = z) (h : K z) : shiftK .shr .u64 x y K := by
  rw [shiftK_def]
  subst hy
  refine ⟨by omega, x / 2 ^ k, ?_, by rw [hz]; exact h⟩
  have e : min (k : Int).toNat (IntKind.bits .u64) = k := by simp [IntKind.bits]; omega
  rw [e]
  exact (Int.fdiv_eq_ediv_of_nonneg x (Int.le_of_lt (Int.pow_pos (by decide)))).symm
theorem shl_of {x y z : Int} {K : Int → Prop} (k : Nat) (hy : y = k) (hk : k ≤ 64) (hz : x * 2 ^ k = z) (h0 : 0 ≤ z) (h1 : z < 18446744073709551616) (h : K z) : shiftK .shl .u64 x y K := by
  rw [shiftK_def]
  subst hy
  refine ⟨by omega, z, ?_, h⟩
  have e : min (k : Int).toNat (IntKind.bits .u64) = k := by simp [IntKind.bits]; omega
  rw [e, hz]
  have : wrapK .u64 z (fun y => z = y) := wrap_u64 h0 (by omega) rfl
  rw [wrapK_def] at this
  exact this
end Go.SX
/- SxZc -/
namespace Go.SX
open Go.RowKit
/-! ### Bytes that are read, the rest of them in a box beside a number -/
structure RdV where
  base : Option Addr
  cap : Nat
  bs : List Int
def RdV.val (v : RdV) : Value := .slice v.base v.bs.length v.cap
def bytsD (u : RdV) : Asn := rowsA u.base 1 (byts u.bs)
def rcells (u : RdV) (e : Int) : List Value := [u.val, .int .i64 e]
/-- what is left of some bytes -/
structure Rest (u u' : RdV) : Prop where
  drop : ∃ k, u'.bs = u.bs.drop k
  room : u'.bs.length ≤ u'.cap
  data : ∀ R w, (bytsD u).holds R w → (bytsD u').holds R w
theorem Rest.trans {a b c : RdV} (h : Rest a b) (g : Rest b c) : Rest a c := by
  obtain ⟨⟨k, hk⟩, h2, h3⟩ := h
  obtain ⟨⟨j, hj⟩, g2, g3⟩ := g
  exact ⟨⟨k + j, by rw [hj, hk, List.drop_drop]⟩, g2, fun R w hh => g3 R w (h3 R w hh)⟩
theorem Rest.refl {a : RdV} (h : a.bs.length ≤ a.cap) : Rest a a := ⟨⟨0, rfl⟩, h, fun _ _ h => h⟩
theorem Rest.bytes {u u' : RdV} (h : Rest u u') (hb : ∀ x ∈ u.bs, 0 ≤ x ∧ x ≤ 255) : ∀ x ∈ u'.bs, 0 ≤ x ∧ x ≤ 255 := by
  obtain ⟨⟨k, hk⟩, _, _⟩ := h
  intro x hx
  rw [hk] at hx
  exact hb x (List.mem_of_mem_drop hx)
theorem Rest.len {u u' : RdV} (h : Rest u u') : u'.bs.length ≤ u.bs.length := by
  obtain ⟨⟨k, hk⟩, _, _⟩ := h
  rw [hk, List.length_drop]; omega
/-- the rest behind n bytes -/
def dropB (u : RdV) (n : Nat) : RdV := ⟨if u.cap = n then u.base else u.base.map (·.add (n * 1)), u.cap - n, u.bs.drop n⟩
theorem dropB_rest {u : RdV} {n : Nat} (hr : u.bs.length ≤ u.cap) (_hn : n ≤ u.bs.length) : Rest u (dropB u n) := by
  refine ⟨⟨n, rfl⟩, by show (u.bs.drop n).length ≤ u.cap - n; rw [List.length_drop]; omega, fun R w h => ?_⟩
  obtain ⟨hs, h⟩ := h
  refine ⟨fun r hr => hs r (by show r ∈ byts u.bs; have hr : r ∈ byts (u.bs.drop n) := hr; simp only [byts, List.map_drop] at hr ⊢; exact List.mem_of_mem_drop hr), ?_⟩
  by_cases he : u.bs.length = n
  · exact .inl (by show byts (u.bs.drop n) = []; rw [List.drop_of_length_le (by omega)]; rfl)
  · rcases h with h | ⟨b, off, h1, h2, h3⟩
    · have h0 : u.bs.length = 0 := by rw [← byts_length, h]; rfl
      omega
    · refine .inr ⟨b, off + n, ?_, h2, fun i r hi j v hj => ?_⟩
      · show (if u.cap = n then u.base else u.base.map (·.add (n * 1))) = _
        rw [if_neg (by omega), h1, Nat.mul_one, Option.map_some, add_none]
      · have hi' : (byts u.bs)[n + i]? = some r := by
          have : (byts (u.bs.drop n))[i]? = some r := hi
          rw [← this]; simp [byts]
        have := h3 (n + i) r hi' j v hj
        rw [← this]
        congr 2
        omega
theorem slice_rest {u : RdV} {n : Nat} {z : Int} {K : SV → Prop} (hz : z = n) (hr : u.bs.length ≤ u.cap) (hn : n ≤ u.bs.length) (h : K (.c (dropB u n).val)) : sliceK u.base u.bs.length u.cap 1 (some z) none none K := by
  rw [sliceK_def]
  refine ⟨n, u.bs.length, u.cap, hz, rfl, rfl, hn, hr, Nat.le_refl _, fun h => (by cases h), ?_⟩
  have e : (dropB u n).val = .slice (if u.cap = n then u.base else u.base.map (·.add (n * 1))) (u.bs.length - n) (u.cap - n) := by
    unfold RdV.val dropB; simp only [List.length_drop]
  rw [← e]; exact h
theorem slice_first {base : Option Addr} {len cap n : Nat} {z : Int} {K : SV → Prop} (hz : z = n) (hn : n ≤ len) (hr : len ≤ cap) (h : K (.c (.slice base n cap))) : sliceK base len cap 1 none (some z) none K := by
  rw [sliceK_def]
  refine ⟨0, n, cap, rfl, hz, rfl, Nat.zero_le _, by omega, Nat.le_refl _, fun h => (by cases h), ?_⟩
  have : (if cap = 0 then base else base.map (·.add (0 * 1))) = base := by
    split
    · rfl
    · cases base <;> simp [Addr.add]
  rw [this, Nat.sub_zero, Nat.sub_zero]; exact h
/-! the number that bytes make -/
def valB (l : List Int) : Int := l.foldl (fun v c => v * 256 + c) 0
theorem valB_snoc (l : List Int) (c : Int) : valB (l ++ [c]) = valB l * 256 + c := by simp [valB]
theorem or_bytes {x y : Int} {K : Int → Prop} (hx : 0 ≤ x) (hy : 0 ≤ y) (hy2 : y ≤ 255) (hx2 : x * 256 + y ≤ 18446744073709551615) (h : K (x * 256 + y)) : bitsK .or .u64 (x * 256) y K := by
  rw [bitsK_def]
  have e : bitsOf .or .u64 (x * 256) y = x * 256 + y := by
    obtain ⟨a, rfl⟩ : ∃ a : Nat, x = a := ⟨x.toNat, by omega⟩
    obtain ⟨c, rfl⟩ : ∃ c : Nat, y = c := ⟨y.toNat, by omega⟩
    simp only [bitsOf, IntKind.bits]
    have h1 : (BitVec.ofInt 64 ((a : Int) * 256)).toNat = 2 ^ 8 * a := by
      rw [BitVec.toNat_ofInt]
      omega
    have h2 : (BitVec.ofInt 64 (c : Int)).toNat = c := by
      rw [BitVec.toNat_ofInt]
      omega
    show IntKind.u64.wrap (((BitVec.ofInt 64 ((a : Int) * 256)) ||| (BitVec.ofInt 64 (c : Int))).toNat : Int) = _
    rw [BitVec.toNat_or, h1, h2, ← Nat.two_pow_add_eq_or_of_lt (show c < 2 ^ 8 by omega)]
    have h3 : wrapK .u64 (((2 ^ 8 * a + c : Nat) : Int)) (fun z => z = (a : Int) * 256 + c) := wrap_u64 (by omega) (by omega) (by omega)
    rw [wrapK_def] at h3
    exact h3
  rw [e]; exact h
/-- reading, plain -/
def rdFail (y : Bool) (c : Int) (s : List Int × Int) : List Int × Int := (s.1, if y = true ∧ s.2 = 0 then c else s.2)
def rdNum (n : Nat) (s : List Int × Int) : Int × List Int × Int := if s.2 ≠ 0 then (0, s.1, s.2) else if s.1.length < n then (0, s.1, 2) else (valB (s.1.take n), s.1.drop n, 0)
def trueA : Asn := ⟨fun _ _ => True, fun _ _ h => h⟩
structure RdOk (T : TypeId) (w : World) (b : Nat) (u : RdV) (e : Int) : Prop where
  small : u.bs.length ≤ 1000000
  bytes : ∀ x ∈ u.bs, 0 ≤ x ∧ x ≤ 255
  room : u.bs.length ≤ u.cap
  data : (bytsD u).holds (oth w b) w
  box : w.heap[b]? = some (.cells (rcells u e).toArray T (0, 0))
/-- what such a call leaves: a value, the rest, the first thing that was wrong -/
abbrev RdPost {α : Type} (T : TypeId) (w : World) (b : Nat) (u : RdV) (val : α → Value) (f : α × List Int × Int) : Ending → World → Prop :=
  BoxPost w b T (fun x : α × RdV × Int => val x.1) (fun x => rcells x.2.1 x.2.2) (fun _ => trueA) (fun x => Rest u x.2.1 ∧ (x.1, x.2.1.bs, x.2.2) = f)
theorem rd_ends {α : Type} {T : TypeId} {w : World} {b : Nat} {u : RdV} {val : α → Value} {f : α × List Int × Int} {v : SV} {H : Heap} {S : Asn} {nx : Nat} (u' : RdV) (hr : Rest u u') (hbs : u'.bs = f.2.1) (hv : ∀ ρ, v.rf ρ = val f.1) (he : (0, Ent.box (cs (rcells u' f.2.2)) T) ∈ H)
    (hS : ∀ R w', S.holds R w' → (restA w b).holds R w') : finK ⟨w, [(0, boxL b)]⟩ v H S nx (RdPost T w b u val f) :=
  fin_of fun ρ w' hw => ⟨(f.1, u', f.2.2), ⟨hr, by rw [hbs]⟩, by rw [hv], (box_end hw hS he).1, (box_end hw hS he).2, trivial⟩
theorem callK_weak {cx : Cx} {f : FuncId} {args : List SV} {H : Heap} {S : Asn} {nx : Nat} {K : SV → Heap → Asn → Nat → Prop}
    (h : callK cx f args H S nx (fun v H' S' nx' => ∃ S2 : Asn, (∀ R w, S'.holds R w → S2.holds R w) ∧ K v H' S2 nx')) : callK cx f args H S nx K := by
  rw [callK_def] at h ⊢
  refine ⟨h.1, fun ρ w hw => (h.2 ρ w hw).mono ?_⟩
  rintro e w' ⟨v, ρ', H', S', nx', h1, h2, h3, h4, h5, S2, h6, h7⟩
  exact ⟨v, ρ', H', S2, nx', h1, h2, h3, h4, h5.sub (List.Sublist.refl _) h6, h7⟩
/-- a call of a reader's method -/
theorem call_rd {cx : Cx} {f : FuncId} {H : Heap} {S : Asn} {nx i : Nat} {K : SV → Heap → Asn → Nat → Prop} {α : Type} {T : TypeId} {u : RdV} {e : Int} {args : List SV} (mk : Value → List Value) (ha : ∀ ρ b, (ρ i).base = some ⟨b, 0, none⟩ → SV.rfs ρ args = mk (.pointer (some ⟨b, 0, none⟩))) (val : α → Value) (r : α × List Int × Int) (hi : (i, Ent.box (cs (rcells u e)) T) ∈ H) (hf : ∀ ar w, (callFunc f ar).run cx.P w = .ok (.enter f ar) w)
    (hsm : u.bs.length ≤ 1000000) (hby : ∀ x ∈ u.bs, 0 ≤ x ∧ x ≤ 255) (hrm : u.bs.length ≤ u.cap) (hS : ∀ R w', S.holds R w' → (bytsD u).holds R w')
    (hc : ∀ w' b, RdOk T w' b u e → Calls cx.P f (mk (.pointer (some ⟨b, 0, none⟩))).toArray w' (RdPost T w' b u val r))
    (h : ∀ u', Rest u u' → u'.bs = r.2.1 → K (.c (val r.1)) (setH i (.box (cs (rcells u' r.2.2)) T) H) S nx) : callK cx f args H S nx K := by
  refine callK_weak (call_box hi hf (fun x : α × RdV × Int => val x.1) (fun x => rcells x.2.1 x.2.2) (fun _ => trueA) (fun x => Rest u x.2.1 ∧ (x.1, x.2.1.bs, x.2.2) = r) ?_ (fun x hx => ⟨S, fun _ _ h => h.1, ?_⟩))
  · intro R ρ w' b hw hR hRo hρ hb
    rw [rfs_cs] at hb
    rw [ha ρ b hρ]
    exact hc w' b ⟨hsm, hby, hrm, (bytsD u).mono (hS R w' hR) hRo, hb⟩
  · obtain ⟨v, u', e'⟩ := x
    obtain ⟨h1, h2⟩ := hx
    subst h2
    exact h u' h1 rfl
/-! rows of such calls: what is known of the bytes at the beginning serves for all that is left of them -/
structure RdBase (u0 : RdV) (S : Asn) : Prop where
  small : u0.bs.length ≤ 1000000
  bytes : ∀ x ∈ u0.bs, 0 ≤ x ∧ x ≤ 255
  data : ∀ R w, S.holds R w → (bytsD u0).holds R w
theorem call_rx {cx : Cx} {f : FuncId} {H : Heap} {S : Asn} {nx i : Nat} {K : SV → Heap → Asn → Nat → Prop} {α : Type} {T : TypeId} {u0 u : RdV} {e : Int} {args : List SV} (mk : Value → List Value) (ha : ∀ ρ b, (ρ i).base = some ⟨b, 0, none⟩ → SV.rfs ρ args = mk (.pointer (some ⟨b, 0, none⟩))) (val : α → Value) (r : α × List Int × Int) (hi : (i, Ent.box (cs (rcells u e)) T) ∈ H) (hf : ∀ ar w, (callFunc f ar).run cx.P w = .ok (.enter f ar) w)
    (h0 : RdBase u0 S) (hr : Rest u0 u)
    (hc : ∀ w' b, RdOk T w' b u e → Calls cx.P f (mk (.pointer (some ⟨b, 0, none⟩))).toArray w' (RdPost T w' b u val r))
    (h : ∀ u', Rest u0 u' → u'.bs = r.2.1 → K (.c (val r.1)) (setH i (.box (cs (rcells u' r.2.2)) T) H) S nx) : callK cx f args H S nx K :=
  call_rd mk ha val r hi hf (Nat.le_trans hr.len h0.small) (hr.bytes h0.bytes) hr.room (fun R w' hS => hr.data R w' (h0.data R w' hS)) hc (fun u' h1 h2 => h u' (hr.trans h1) h2)
theorem valB_bound : ∀ {l : List Int}, (∀ x ∈ l, 0 ≤ x ∧ x ≤ 255) → 0 ≤ valB l ∧ valB l < 256 ^ l.length := by
  intro l
  induction hn : l.length generalizing l with
  | zero =>
    intro _
    have : l = [] := List.length_eq_zero_iff.1 hn
    subst this
    exact ⟨Int.le_refl _, by decide⟩
  | succ n ih =>
    intro hl
    obtain ⟨m, c, rfl⟩ : ∃ m c, l = m ++ [c] := by
      rcases List.eq_nil_or_concat l with rfl | ⟨m, c, rfl⟩
      · simp at hn
      · exact ⟨m, c, by rw [List.concat_eq_append]⟩
    have hm : m.length = n := by simp at hn; exact hn
    obtain ⟨h1, h2⟩ := ih hm (fun x hx => hl x (by simp [hx]))
    have hc := hl c (by simp)
    rw [valB_snoc, Int.pow_succ]
    omega
theorem rdNum_bound {n : Nat} {s : List Int × Int} (hn : n ≤ 4) (hb : ∀ x ∈ s.1, 0 ≤ x ∧ x ≤ 255) : 0 ≤ (rdNum n s).1 ∧ (rdNum n s).1 ≤ 4294967295 := by
  unfold rdNum
  split
  · exact ⟨Int.le_refl _, (show (0 : Int) ≤ 4294967295 by decide)⟩
  · split
    · exact ⟨Int.le_refl _, (show (0 : Int) ≤ 4294967295 by decide)⟩
    · have h := valB_bound (l := s.1.take n) (fun x hx => hb x (List.mem_of_mem_take hx))
      have hl : (s.1.take n).length = n := by rw [List.length_take]; omega
      rw [hl] at h
      refine ⟨h.1, ?_⟩
      have : n = 0 ∨ n = 1 ∨ n = 2 ∨ n = 3 ∨ n = 4 := by omega
      rcases this with rfl | rfl | rfl | rfl | rfl
      · have : valB (List.take 0 s.1) < 1 := h.2; show valB (List.take 0 s.1) ≤ _; omega
      · have : valB (List.take 1 s.1) < 256 := h.2; show valB (List.take 1 s.1) ≤ _; omega
      · have : valB (List.take 2 s.1) < 65536 := h.2; show valB (List.take 2 s.1) ≤ _; omega
      · have : valB (List.take 3 s.1) < 16777216 := h.2; show valB (List.take 3 s.1) ≤ _; omega
      · have : valB (List.take 4 s.1) < 4294967296 := h.2; show valB (List.take 4 s.1) ≤ _; omega
/-! a call that hands back a new box -/
def NewBox (w w' : World) (v : Value) (T : TypeId) (cells : List Value) : Prop := ∃ b, v = .pointer (some ⟨b, 0, none⟩) ∧ w.heap.size ≤ b ∧ w'.heap[b]? = some (.cells cells.toArray T (0, 0))
theorem newBox_of_abs {B : Base} {ρ : Nat → Loc} {nx i : Nat} {H : Heap} {S : Asn} {w : World} {cells : List Value} {T : TypeId} (h : Abs B ρ nx H S w) (hS : ∀ R w', S.holds R w' → (baseA B.w0).holds R w') (he : (i, Ent.box (cs cells) T) ∈ H) : NewBox B.w0 w ((SV.lp i 0 0 0).rf ρ) T cells := by
  obtain ⟨R, φ, h⟩ := h
  have hb := hS R w h.asn
  obtain ⟨b, h1, h2, h3⟩ := h.ent _ he
  simp only at h1
  refine ⟨b, by simp [SV.rf, h1, add_none], ?_, by rw [rfs_cs] at h3; exact h3⟩
  rcases Nat.lt_or_ge b B.w0.heap.size with hl | hl
  · exact absurd (hb b hl).1 (h.apart _ he b ((h2 b).2 rfl))
  · exact hl
theorem call_newbox {cx : Cx} {f : FuncId} {args : List SV} {H : Heap} {S : Asn} {nx : Nat} {K : SV → Heap → Asn → Nat → Prop} (hf : ∀ as w, (callFunc f as).run cx.P w = .ok (.enter f as) w) (T : TypeId) {α : Type} (cells : α → List Value) (p : α → Prop)
    (hc : ∀ ρ w, Abs cx.B ρ nx H S w → Calls cx.P f (SV.rfs ρ args).toArray w (fun e w' => ∃ x, p x ∧ ∃ v, e = .returned v ∧ Ext w w' ∧ NewBox w w' v T (cells x)))
    (h : ∀ x, p x → K (.lp nx 0 0 0) ((nx, .box (cs (cells x)) T) :: H) S (nx + 1)) : callK cx f args H S nx K := by
  rw [callK_def]
  refine ⟨hf, fun ρ w hw => (hc ρ w hw).mono ?_⟩
  rintro e w' ⟨x, hp, v, rfl, he, b, rfl, hb, hcell⟩
  have hw' := hw.ext he
  obtain ⟨R, φ, hwR⟩ := hw
  have hwR' := hwR.step (Step.of_ext he) (fun _ _ h => h) (fun _ _ _ _ h => h)
  refine ⟨.lp nx 0 0 0, upd ρ nx ⟨some ⟨b, 0, none⟩, 0⟩, _, S, nx + 1, by simp [SV.rf, upd_same, add_none], fun i hi => upd_lt hi, Nat.le_succ _, SV.lt_lp (by omega), ?_, h x hp⟩
  refine ⟨R, _, hwR'.add (e := .box (cs (cells x)) T) (l := ⟨some ⟨b, 0, none⟩, 0⟩) (F := fun y => y = b) (fun y hy => lts_cs nx _ y hy) ⟨b, rfl, fun _ => Iff.rfl, by rw [rfs_cs]; exact hcell⟩ (fun y hy hR => ?_) (fun p hp y hy hy' => ?_)⟩
  · subst hy; have := hwR.ro y hR; omega
  · subst hy'; have := Ent.size (hwR.ent p hp) hy; omega
end Go.SX
/- SxZd -/
namespace Go.SX
open Go.RowKit
/-! ### A call walked within its caller -/
structure doneK (K : SV → Heap → Asn → Nat → Prop) (v : SV) (H : Heap) (S : Asn) (nx : Nat) : Prop where
  out : K v H S nx
theorem done_of {K : SV → Heap → Asn → Nat → Prop} {v : SV} {H : Heap} {S : Asn} {nx : Nat} (h : K v H S nx) : doneK K v H S nx := ⟨h⟩
def inlK (cx : Cx) (rs : List ResultVar) (K : SV → Heap → Asn → Nat → Prop) : Exit → Env → Heap → Asn → Nat → Prop
  | .normal, env, H, S, nx => resK cx env H S (fun l => doneK K (oneOf l) H S nx) rs
  | .ret, env, H, S, nx => resK cx env H S (fun l => doneK K (oneOf l) H S nx) rs
  | _, _, _, _, _ => False
theorem oneOf_lt {nx : Nat} {l : List SV} (h : SV.lts nx l) : (oneOf l).lt nx := by
  match l, h with
  | [], h => exact SV.lt_tup.2 h
  | [v], h => exact SV.lts_iff.1 h v (by simp)
  | a :: b :: r, h => exact SV.lt_tup.2 h
theorem call_inline {P : Program} {B : Base} {n0 : Nat} {tab : List (Nat × TI)} (hok : ∀ p ∈ tab, mkTI P p.1 = some p.2) {f : FuncId} {fn : Func} {c : Code} {n : Nat} {rs : List ResultVar} (hf : P.funcs[f]? = some fn) (hb : fn.body = some c) (hn : fn.ntmps = n) (hrs : fn.results.toList = rs) (hen : ∀ as w, (callFunc f as).run P w = .ok (.enter f as) w)
    {args : List SV} {H : Heap} {S : Asn} {nx : Nat} {K : SV → Heap → Asn → Nat → Prop} (hlt : SV.bnds nx args = true) (hlen : args.length ≤ n) (h : Wp ⟨P, B, n, tab⟩ c (number 0 args) H S nx (inlK ⟨P, B, n, tab⟩ rs K)) : callK ⟨P, B, n0, tab⟩ f args H S nx K := by
  subst hn
  subst hrs
  rw [callK_def]
  refine ⟨hen, fun ρ w hw => ?_⟩
  refine calls_of_wp hf hb ?_
  rw [Wp_def] at h
  refine wp_mono (h ρ _ w ?_ hw) ?_
  · refine ⟨rfl, by simp [rfs_length]; omega, fun t v hv ht => ?_, fun t v hv => ?_⟩
    · obtain ⟨j, rfl, hj⟩ := number_get hv
      have hjl := (List.getElem?_eq_some_iff.1 hj).1
      simp only [Nat.zero_add]
      rw [Array.getElem?_append_left (by simp [rfs_length]; omega)]
      simp [SV.rfs_eq, hj]
    · obtain ⟨j, rfl, hj⟩ := number_get hv
      exact SV.lts_iff.1 (SV.bnds_lt hlt) v (List.mem_of_getElem? hj)
  · rintro e a' w' ⟨ρ', env', H', S', nx', h2, h3, h4, h5, h6⟩
    have fin : ∀ {Q : Prop}, (resK ⟨P, B, fn.ntmps, tab⟩ env' H' S' (fun l => doneK K (oneOf l) H' S' nx') fn.results.toList) → (a'.defers = [] ∧ ∃ v, (results fn a'.tmps).run P w' = .ok v w' ∧ ∃ u ρ'' H'' S'' nx'', Ending.returned v = .returned (u.rf ρ'') ∧ (∀ i, i < nx → ρ'' i = ρ i) ∧ nx ≤ nx'' ∧ u.lt nx'' ∧ Abs B ρ'' nx'' H'' S'' w' ∧ K u H'' S'' nx'') := by
      intro Q h6
      obtain ⟨l, g1, g2, g3⟩ := resK_spec (cx := ⟨P, B, fn.ntmps, tab⟩) hok h4 h5 h6
      refine ⟨h4.defers, _, results_run g3, oneOf l, ρ', H', S', nx', ?_, h2, h3, oneOf_lt g2, h5, g1.out⟩
      rw [oneOf_rf]
    cases e with
    | normal => exact fin (Q := True) h6
    | ret => exact fin (Q := True) h6
    | _ => exact h6.elim
end Go.SX
/- SxZe -/
namespace Go.SX
open Go.RowKit
/-- One's own rows are written no more: from here on they stay. -/
theorem Wp.freezeN {cx : Cx} {c : Code} {env : Env} {H : Heap} {S : Asn} {nx : Nat} {K : Exit → Env → Heap → Asn → Nat → Prop} (i N : Nat) {xs : List (List Value)} {k : Nat} {T : TypeId} (he : (i, Ent.rows xs k T) ∈ H) (hN : ∀ R w, S.holds R w → ∀ b, b < N → R b)
    (h : ∀ l : Loc, xs.length ≤ l.cap → Wp cx c (env.fz i l) (Heap.fz i l (delH i H)) (S.and ((rowsA l.base k xs).past N)) nx K) : Wp cx c env H S nx K := by
  simp only [Wp_def] at *
  intro ρ a w hs hw
  obtain ⟨R, φ, hw⟩ := hw
  have hent := hw.ent _ he
  obtain ⟨hr, hcap, hent'⟩ := hent
  have hdel : ∀ p ∈ delH i H, p.1 ≠ i ∧ ∀ b, φ p.1 b → ¬ φ i b := by
    have : ∀ {H : Heap}, H.Pairwise (fun p q => p.1 ≠ q.1 ∧ ∀ b, φ p.1 b → ¬ φ q.1 b) → ∀ {e : Ent}, (i, e) ∈ H → ∀ p ∈ delH i H, p.1 ≠ i ∧ ∀ b, φ p.1 b → ¬ φ i b := by
      intro H hsep
      induction H with
      | nil => intro e he; cases he
      | cons q r ih =>
        obtain ⟨hq, hr⟩ := List.pairwise_cons.1 hsep
        intro e he p hp
        obtain ⟨qi, qe⟩ := q
        unfold delH at hp
        cases hbq : Nat.beq qi i with
        | true =>
          rw [hbq, cond_true] at hp
          have := Nat.eq_of_beq_eq_true hbq
          subst this
          exact ⟨(hq p hp).1.symm, fun b hb hb' => (hq p hp).2 b hb' hb⟩
        | false =>
          rw [hbq, cond_false] at hp
          have hne := Nat.ne_of_beq_eq_false hbq
          have her : (i, e) ∈ r := (List.mem_cons.1 he).resolve_left (fun g => hne (by simpa using congrArg Prod.fst g.symm))
          rcases List.mem_cons.1 hp with g | g
          · subst g; exact ⟨hne, (hq _ her).2⟩
          · exact ih hr her p g
    exact this hw.sep he
  refine h (ρ i) hcap ρ a w ⟨hs.defers, hs.size, fun t v hv ht => ?_, fun t v hv => ?_⟩ ?_
  · obtain ⟨u, hu, rfl⟩ := Env.get_fz hv
    rw [hs.val t u hu ht, SV.rf_fz]
  · obtain ⟨u, hu, rfl⟩ := Env.get_fz hv
    exact fun x hx => hs.lt t u hu x (SV.has_fz hx)
  · have hsub := hw.drop (delH_sublist i H)
    refine ⟨fun b => R b ∨ φ i b, φ, hw.os, hw.tape, hw.output, hw.size, hw.pin, fun b hb => hb.elim (hw.ro b) (fun hb => Ent.size (hw.ent _ he) hb), ⟨S.stable (fun _ h => .inl h) (fun _ _ => rfl) hw.asn, ?_⟩, ?_, ?_, ?_, ?_⟩
    · refine ⟨hr, ?_⟩
      rcases hent' with ⟨h1, h2, _⟩ | ⟨b, off, c', h1, h2, h3, h4, h5⟩
      · simp only at hcap h2; exact .inl (List.eq_nil_of_length_eq_zero (by omega))
      · exact .inr ⟨b, off, h1, ⟨.inr ((h2 b).2 rfl), Nat.le_of_not_lt fun hb => hw.apart _ he b ((h2 b).2 rfl) (hN R w hw.asn b hb)⟩, fun m r hm j v hj => by have := h5 m r hm j v hj; rw [← Nat.add_assoc]; simpa [World.cell?, h3] using this⟩
    · rw [Heap.fz_eq]
      intro p hp
      obtain ⟨q, hq, rfl⟩ := List.mem_map.1 hp
      refine ⟨(hsub.key q hq).1, fun x hx => ?_⟩
      cases hqe : q.2 with
      | box cs T =>
        rw [hqe] at hx
        have := (hsub.key q hq).2
        rw [hqe] at this
        exact this x (SV.hass_fz hx)
      | rows xs k T => rw [hqe] at hx; simp [Ent.fz, Ent.hass] at hx
      | ext o => rw [hqe] at hx; simp [Ent.fz, Ent.hass] at hx
    · rw [Heap.fz_eq]
      intro p hp
      obtain ⟨q, hq, rfl⟩ := List.mem_map.1 hp
      have := hsub.ent q hq
      dsimp only
      cases hqe : q.2 with
      | box cs T =>
        rw [hqe] at this
        obtain ⟨b, h1, h2, h3⟩ := this
        exact ⟨b, h1, h2, by rw [SV.rfs_fz]; exact h3⟩
      | rows xs k T => rw [hqe] at this; exact this
      | ext o => rw [hqe] at this; exact this
    · rw [Heap.fz_eq]
      intro p hp b hb hb'
      obtain ⟨q, hq, rfl⟩ := List.mem_map.1 hp
      exact hb'.elim (hsub.apart q hq b hb) ((hdel q hq).2 b hb)
    · rw [Heap.fz_eq]
      exact List.pairwise_map.2 hsub.sep
end Go.SX
/- SxZf -/
namespace Go.SX
open Go.RowKit
theorem restF_holds {w w' : World} {F : Nat → Prop} {R : Nat → Prop} {D : Asn} (h : D.holds (othF w F) w) (hr : (restF w F).holds R w') : D.holds R w' :=
  D.stable (fun x hx => (hr x hx).1) (fun x hx => (hr x hx).2) h
/-- a call that is handed such a slice, and data -/
theorem call_sliceD {cx : Cx} {f : FuncId} {args : List SV} {H : Heap} {S : Asn} {nx i : Nat} {K : SV → Heap → Asn → Nat → Prop} {T TE : TypeId} {k : Nat} {xs : List (List Value)} (hi : (i, Ent.ext (sliceO T TE k xs)) ∈ H)
    (hf : ∀ ar w, (callFunc f ar).run cx.P w = .ok (.enter f ar) w) {α : Type} (val : α → Value) (rows : α → List (List Value)) (p : α → Prop)
    (hc : ∀ R ρ w b F, Abs cx.B ρ nx H S w → S.holds R w → (∀ y, R y → othF w F y) → (ρ i).base = some ⟨b, 0, none⟩ → SliceAt T TE k xs b F w → Calls cx.P f (SV.rfs ρ args).toArray w (SlicePost w b F T TE k val rows p))
    (h : ∀ x, p x → K (.c (val x)) (setH i (.ext (sliceO T TE k (rows x))) H) S nx) : callK cx f args H S nx K := by
  rw [callK_def]
  refine ⟨hf, fun ρ w hw => ?_⟩
  have hw0 := hw
  obtain ⟨R, φ, hwR⟩ := hw
  obtain ⟨b, h1, h2⟩ := hwR.ent _ hi
  refine (hc R ρ w b (φ i) hw0 hwR.asn (fun y hy => ⟨hwR.ro y hy, fun hF => hwR.apart _ hi y hF hy⟩) h1 h2).mono ?_
  rintro e w' ⟨x, hp, rfl, hs, F', hF, hsl⟩
  have h' := hwR.move hi (e' := .ext (sliceO T TE k (rows x))) (fun y hy => by simp [Ent.hass] at hy) hs hF ⟨b, h1, hsl⟩
  exact ⟨.c (val x), ρ, _, _, nx, rfl, fun _ _ => rfl, Nat.le_refl _, SV.lt_c _, ⟨R, _, h'⟩, h x hp⟩
end Go.SX
/- SxZg -/
namespace Go.SX
open Go.RowKit
/-- The same beside a box of the caller's, of which R says nothing. -/
theorem Wp.freezeB {cx : Cx} {c : Code} {env : Env} {H : Heap} {S : Asn} {nx : Nat} {K : Exit → Env → Heap → Asn → Nat → Prop} (i N : Nat) {xs : List (List Value)} {k : Nat} {T : TypeId} (he : (i, Ent.rows xs k T) ∈ H) {b0 : Nat} {cells : List SV} {T0 : TypeId} (hp : (0, boxL b0) ∈ cx.B.pin) (h0 : (0, Ent.box cells T0) ∈ H) (hi : i ≠ 0) (hN : ∀ R w, S.holds R w → ∀ b, b < N → b ≠ b0 → R b)
    (h : ∀ l : Loc, xs.length ≤ l.cap → Wp cx c (env.fz i l) (Heap.fz i l (delH i H)) (S.and ((rowsA l.base k xs).past N)) nx K) : Wp cx c env H S nx K := by
  simp only [Wp_def] at *
  intro ρ a w hs hw
  obtain ⟨R, φ, hw⟩ := hw
  have hent := hw.ent _ he
  obtain ⟨hr, hcap, hent'⟩ := hent
  have hdel : ∀ p ∈ delH i H, p.1 ≠ i ∧ ∀ b, φ p.1 b → ¬ φ i b := by
    have : ∀ {H : Heap}, H.Pairwise (fun p q => p.1 ≠ q.1 ∧ ∀ b, φ p.1 b → ¬ φ q.1 b) → ∀ {e : Ent}, (i, e) ∈ H → ∀ p ∈ delH i H, p.1 ≠ i ∧ ∀ b, φ p.1 b → ¬ φ i b := by
      intro H hsep
      induction H with
      | nil => intro e he; cases he
      | cons q r ih =>
        obtain ⟨hq, hr⟩ := List.pairwise_cons.1 hsep
        intro e he p hp
        obtain ⟨qi, qe⟩ := q
        unfold delH at hp
        cases hbq : Nat.beq qi i with
        | true =>
          rw [hbq, cond_true] at hp
          have := Nat.eq_of_beq_eq_true hbq
          subst this
          exact ⟨(hq p hp).1.symm, fun b hb hb' => (hq p hp).2 b hb' hb⟩
        | false =>
          rw [hbq, cond_false] at hp
          have hne := Nat.ne_of_beq_eq_false hbq
          have her : (i, e) ∈ r := (List.mem_cons.1 he).resolve_left (fun g => hne (by simpa using congrArg Prod.fst g.symm))
          rcases List.mem_cons.1 hp with g | g
          · subst g; exact ⟨hne, (hq _ her).2⟩
          · exact ih hr her p g
    exact this hw.sep he
  have hmem : ∀ {H : Heap}, (0, Ent.box cells T0) ∈ H → (0, Ent.box cells T0) ∈ delH i H := by
    intro H
    induction H with
    | nil => intro g; cases g
    | cons q r ih =>
      intro g
      obtain ⟨qi, qe⟩ := q
      unfold delH
      cases hbq : Nat.beq qi i with
      | true =>
        rw [cond_true]
        have := Nat.eq_of_beq_eq_true hbq
        rcases List.mem_cons.1 g with g | g
        · exact absurd (by simpa using (congrArg Prod.fst g).symm.trans rfl : qi = 0) (by omega)
        · exact g
      | false =>
        rw [cond_false]
        rcases List.mem_cons.1 g with g | g
        · exact List.mem_cons.2 (.inl g)
        · exact List.mem_cons_of_mem _ (ih g)
  have hb0 : ¬ φ i b0 := by
    obtain ⟨b', g1, g2, _⟩ := hw.ent _ h0
    have hpin := (hw.pin (0, boxL b0) hp).2
    simp only at hpin g1 g2
    rw [hpin] at g1
    obtain rfl : b0 = b' := by simpa [boxL] using g1
    exact (hdel _ (hmem h0)).2 b0 ((g2 b0).2 rfl)
  refine h (ρ i) hcap ρ a w ⟨hs.defers, hs.size, fun t v hv ht => ?_, fun t v hv => ?_⟩ ?_
  · obtain ⟨u, hu, rfl⟩ := Env.get_fz hv
    rw [hs.val t u hu ht, SV.rf_fz]
  · obtain ⟨u, hu, rfl⟩ := Env.get_fz hv
    exact fun x hx => hs.lt t u hu x (SV.has_fz hx)
  · have hsub := hw.drop (delH_sublist i H)
    refine ⟨fun b => R b ∨ φ i b, φ, hw.os, hw.tape, hw.output, hw.size, hw.pin, fun b hb => hb.elim (hw.ro b) (fun hb => Ent.size (hw.ent _ he) hb), ⟨S.stable (fun _ h => .inl h) (fun _ _ => rfl) hw.asn, ?_⟩, ?_, ?_, ?_, ?_⟩
    · refine ⟨hr, ?_⟩
      rcases hent' with ⟨h1, h2, _⟩ | ⟨b, off, c', h1, h2, h3, h4, h5⟩
      · simp only at hcap h2; exact .inl (List.eq_nil_of_length_eq_zero (by omega))
      · exact .inr ⟨b, off, h1, ⟨.inr ((h2 b).2 rfl), Nat.le_of_not_lt fun hb => hw.apart _ he b ((h2 b).2 rfl) (hN R w hw.asn b hb fun e => hb0 (e ▸ (h2 b).2 rfl))⟩, fun m r hm j v hj => by have := h5 m r hm j v hj; rw [← Nat.add_assoc]; simpa [World.cell?, h3] using this⟩
    · rw [Heap.fz_eq]
      intro p hp
      obtain ⟨q, hq, rfl⟩ := List.mem_map.1 hp
      refine ⟨(hsub.key q hq).1, fun x hx => ?_⟩
      cases hqe : q.2 with
      | box cs T =>
        rw [hqe] at hx
        have := (hsub.key q hq).2
        rw [hqe] at this
        exact this x (SV.hass_fz hx)
      | rows xs k T => rw [hqe] at hx; simp [Ent.fz, Ent.hass] at hx
      | ext o => rw [hqe] at hx; simp [Ent.fz, Ent.hass] at hx
    · rw [Heap.fz_eq]
      intro p hp
      obtain ⟨q, hq, rfl⟩ := List.mem_map.1 hp
      have := hsub.ent q hq
      dsimp only
      cases hqe : q.2 with
      | box cs T =>
        rw [hqe] at this
        obtain ⟨b, h1, h2, h3⟩ := this
        exact ⟨b, h1, h2, by rw [SV.rfs_fz]; exact h3⟩
      | rows xs k T => rw [hqe] at this; exact this
      | ext o => rw [hqe] at this; exact this
    · rw [Heap.fz_eq]
      intro p hp b hb hb'
      obtain ⟨q, hq, rfl⟩ := List.mem_map.1 hp
      exact hb'.elim (hsub.apart q hq b hb) ((hdel q hq).2 b hb)
    · rw [Heap.fz_eq]
      exact List.pairwise_map.2 hsub.sep
end Go.SX
/- SxZh -/
namespace Go.SX
open Go.RowKit
/-! slices of one-cell values that a slice of slices leads to: a group of blocks of one's own -/
abbrev Cell1 := Loc × List Value
def grpHolds (T : TypeId) (L : List Cell1) (F : Nat → Prop) (w : World) : Prop :=
  (∀ x, F x ↔ ∃ l ∈ L.map Prod.fst, ∃ off, l.base = some ⟨x, off, none⟩) ∧
  (L.map Prod.fst).Pairwise (fun l m => ∀ b off off', l.base = some ⟨b, off, none⟩ → m.base ≠ some ⟨b, off', none⟩) ∧
  ∀ p ∈ L, p.1.base = none ∨ ∃ b off c, p.1.base = some ⟨b, off, none⟩ ∧ w.heap[b]? = some (.cells c T (0, 0)) ∧ off + p.2.length ≤ c.size ∧ off + p.1.cap ≤ c.size ∧ ∀ (j : Nat) (v : Value), p.2[j]? = some v → c[off + j]? = some v
theorem grp_in {T : TypeId} {L : List Cell1} {F : Nat → Prop} {w : World} (h : grpHolds T L F w) {p : Cell1} (hp : p ∈ L) {b off : Nat} (hb : p.1.base = some ⟨b, off, none⟩) : F b ∧ ∃ c, w.heap[b]? = some (.cells c T (0, 0)) ∧ off + p.2.length ≤ c.size ∧ off + p.1.cap ≤ c.size ∧ ∀ (j : Nat) (v : Value), p.2[j]? = some v → c[off + j]? = some v := by
  refine ⟨(h.1 b).2 ⟨p.1, List.mem_map.2 ⟨p, hp, rfl⟩, off, hb⟩, ?_⟩
  rcases h.2.2 p hp with hn | ⟨b', off', c, h1, h2⟩
  · rw [hb] at hn; cases hn
  · rw [hb] at h1
    simp only [Option.some.injEq, Addr.mk.injEq, and_true] at h1
    obtain ⟨rfl, rfl⟩ := h1
    exact ⟨c, h2⟩
def grpO (T : TypeId) (L : List Cell1) : Own where
  holds _ F w := grpHolds T L F w
  stable := by
    intro l F w w' hw h
    refine ⟨h.1, h.2.1, fun p hp => ?_⟩
    rcases h.2.2 p hp with hn | ⟨b, off, c, h1, h2, h3, h4, h5⟩
    · exact .inl hn
    · exact .inr ⟨b, off, c, h1, (hw b (grp_in h hp h1).1).trans h2, h3, h4, h5⟩
  lt := by
    intro l F w b h hb
    obtain ⟨m, hm, off, hmb⟩ := (h.1 b).1 hb
    obtain ⟨p, hp, rfl⟩ := List.mem_map.1 hm
    obtain ⟨_, c, hc, _⟩ := grp_in h hp hmb
    exact (Array.getElem?_eq_some_iff.1 hc).1
theorem set_fst {L : List Cell1} {d : Nat} {l : Loc} {vs us : List Value} (hd : L[d]? = some (l, vs)) : (L.set d (l, us)).map Prod.fst = L.map Prod.fst := by
  rw [List.map_set]
  apply List.ext_getElem?
  intro i
  rw [List.getElem?_set]
  split
  · rename_i h
    subst h
    split
    · rw [List.getElem?_map, hd]; rfl
    · rename_i hn
      rw [List.getElem?_eq_none (by omega)]
  · rfl
/-- a store into a member -/
theorem grp_write {T : TypeId} {L : List Cell1} {F : Nat → Prop} {w : World} (h : grpHolds T L F w) {d s : Nat} {l : Loc} {vs : List Value} {b off : Nat} {v : Value} (hd : L[d]? = some (l, vs)) (hb : l.base = some ⟨b, off, none⟩) (hs : s < vs.length) :
    ∃ c, w.heap[b]? = some (.cells c T (0, 0)) ∧ off + s < c.size ∧ F b ∧ grpHolds T (L.set d (l, vs.set s v)) F (w.setRow b (setFrom c.toList (off + s) [v]).toArray) := by
  have hm := List.mem_of_getElem? hd
  obtain ⟨hF, c, hc, hsz, hcap, hcell⟩ := grp_in h hm hb
  refine ⟨c, hc, by simp only at hsz; omega, hF, by rw [set_fst hd]; exact h.1, by rw [set_fst hd]; exact h.2.1, fun p hp => ?_⟩
  obtain ⟨i, hi⟩ := List.mem_iff_getElem?.1 hp
  rw [List.getElem?_set] at hi
  have hrow := setRow_heap w b c (setFrom c.toList (off + s) [v]).toArray T (0, 0) hc
  split at hi
  · split at hi
    · have hpe : p = (l, vs.set s v) := by simpa using hi.symm
      subst hpe
      refine .inr ⟨b, off, _, hb, hrow, ?_, ?_, fun j u hj => ?_⟩
      · simpa [setFrom_length] using hsz
      · simpa [setFrom_length] using hcap
      · simp only at hj
        have e : setFrom c.toList (off + s) [v] = c.toList.set (off + s) v := by
          simp [setFrom]
        rw [e]
        rw [List.getElem?_set] at hj
        by_cases hjs : s = j
        · subst hjs
          rw [if_pos rfl, if_pos hs] at hj
          have : v = u := by simpa using hj
          subst this
          simp only [List.getElem?_toArray]
          rw [List.getElem?_set_self (by simp only at hsz; simpa using (by omega : off + s < c.size))]
        · rw [if_neg hjs] at hj
          have := hcell j u hj
          simp only [List.getElem?_toArray]
          rw [List.getElem?_set_ne (by omega)]
          simpa using this
    · cases hi
  · rename_i hne
    have hpm := List.mem_of_getElem? hi
    rcases h.2.2 p hpm with hn | ⟨b', off', c', h1, h2, h3, h4, h5⟩
    · exact .inl hn
    · have hbb : b' ≠ b := fun e => by
        subst e
        have hL1 : (L.map Prod.fst)[d]? = some l := by rw [List.getElem?_map, hd]; rfl
        have hL2 : (L.map Prod.fst)[i]? = some p.1 := by rw [List.getElem?_map, hi]; rfl
        have hpw := h.2.1
        rw [List.pairwise_iff_getElem] at hpw
        obtain ⟨g1, e1⟩ := List.getElem?_eq_some_iff.1 hL1
        obtain ⟨g2, e2⟩ := List.getElem?_eq_some_iff.1 hL2
        rcases Nat.lt_or_ge d i with hlt | hge
        · have := hpw d i g1 g2 hlt b' off off' (by rw [e1]; exact hb)
          rw [e2] at this
          exact this h1
        · have := hpw i d g2 g1 (by omega) b' off' off (by rw [e2]; exact h1)
          rw [e1] at this
          exact this hb
      exact .inr ⟨b', off', c', h1, ((step_setRow w b _).block b' (Array.getElem?_eq_some_iff.1 h2).1 hbb).trans h2, h3, h4, h5⟩
theorem wr_group {B : Base} {H : Heap} {K : Heap → Prop} {g : Nat} {T : TypeId} {L : List Cell1} {d s : Nat} {l : Loc} {vs : List Value} {b off : Nat} {v : Value} {a : Addr} (hg : (g, Ent.ext (grpO T L)) ∈ H) (hd : L[d]? = some (l, vs)) (hb : l.base = some ⟨b, off, none⟩) (hs : s < vs.length) (ha : a = ⟨b, off + s, none⟩)
    (hK : K (setH g (.ext (grpO T (L.set d (l, vs.set s v)))) H)) : wrK B a [v] H K := by
  subst ha
  refine ⟨_, fun ρ nx S w hw => ?_, hK⟩
  have hA := hw
  obtain ⟨R, φ, hw⟩ := hw
  have hent : grpHolds T L (φ g) w := hw.ent _ hg
  obtain ⟨c, hc, hlt, hF, _⟩ := grp_write (v := v) hent hd hb hs
  refine ⟨b, off + s, c, T, rfl, hc, by show off + s + 1 ≤ c.size; omega, hA.store hg (fun y hy => by simp [Ent.hass] at hy) fun F hF => ?_⟩
  obtain ⟨c', hc', hlt', hFb, hnew⟩ := grp_write (v := v) (show grpHolds T L F w from hF) hd hb hs
  rw [hc] at hc'
  obtain rfl : c = c' := by simpa using hc'
  exact ⟨⟨rfl, rfl, rfl, by simp [World.setRow], fun x hx hne => (step_setRow w b _).block x hx (fun e => hne (by rw [e]; exact hFb))⟩, hnew⟩
end Go.SX
/- SxZi -/
namespace Go.SX
open Go.RowKit
def oneRows (vs : List Value) : List (List Value) := vs.map fun v => [v]
/-- a new block goes into the group -/
theorem grp_add {T : TypeId} {L : List Cell1} {F G : Nat → Prop} {w : World} (h : grpHolds T L F w) {d : Nat} {l : Loc} {us vs : List Value} {l0 : Loc} (hd : L[d]? = some (l0, us)) (hn : l0.base = none) (hr : (Ent.rows (oneRows vs) 1 T).holds (fun _ => l) l G w) (hpos : 0 < vs.length) (hap : ∀ b, F b → ¬ G b) :
    grpHolds T (L.set d (l, vs)) (fun b => F b ∨ G b) w ∧ ∃ b off, l.base = some ⟨b, off, none⟩ := by
  obtain ⟨_, hcap, hent⟩ := hr
  have hlen : (oneRows vs).length = vs.length := by simp [oneRows]
  rcases hent with ⟨hb, hc0, _⟩ | ⟨b, off, c, hb, hG, hc, hsz, hcell⟩
  · exfalso; rw [hlen] at hcap; omega
  rw [hlen] at hcap
  have hdl : d < L.length := (List.getElem?_eq_some_iff.1 hd).1
  have hmap : (L.set d (l, vs)).map Prod.fst = (L.map Prod.fst).set d l := by rw [List.map_set]
  have hLd : (L.map Prod.fst)[d]? = some l0 := by rw [List.getElem?_map, hd]; rfl
  have hmem : ∀ m : Loc, m ∈ (L.map Prod.fst).set d l ↔ m = l ∨ ∃ i, i ≠ d ∧ (L.map Prod.fst)[i]? = some m := fun m => by
    constructor
    · intro hm
      obtain ⟨i, hi⟩ := List.mem_iff_getElem?.1 hm
      rw [List.getElem?_set] at hi
      split at hi
      · split at hi
        · exact .inl (by simpa using hi.symm)
        · cases hi
      · rename_i hne
        exact .inr ⟨i, fun e => hne e.symm, hi⟩
    · rintro (rfl | ⟨i, hne, hi⟩)
      · exact List.mem_iff_getElem?.2 ⟨d, by rw [List.getElem?_set_self (by simpa using hdl)]⟩
      · exact List.mem_iff_getElem?.2 ⟨i, by rw [List.getElem?_set_ne (fun e => hne e.symm)]; exact hi⟩
  refine ⟨⟨fun x => ?_, ?_, fun p hp => ?_⟩, b, off, hb⟩
  · rw [hmap]
    constructor
    · rintro (hx | hx)
      · obtain ⟨m, hm, o, ho⟩ := (h.1 x).1 hx
        obtain ⟨i, hi⟩ := List.mem_iff_getElem?.1 hm
        refine ⟨m, (hmem m).2 (.inr ⟨i, fun e => ?_, hi⟩), o, ho⟩
        subst e
        rw [hLd] at hi
        have : l0 = m := by simpa using hi
        subst this
        rw [hn] at ho; cases ho
      · obtain rfl := (hG x).1 hx
        exact ⟨l, (hmem l).2 (.inl rfl), off, hb⟩
    · rintro ⟨m, hm, o, ho⟩
      rcases (hmem m).1 hm with rfl | ⟨i, _, hi⟩
      · rw [hb] at ho
        simp only [Option.some.injEq, Addr.mk.injEq, and_true] at ho
        exact .inr ((hG x).2 ho.1.symm)
      · exact .inl ((h.1 x).2 ⟨m, List.mem_of_getElem? hi, o, ho⟩)
  · rw [hmap, List.pairwise_iff_getElem]
    have hpw := h.2.1
    rw [List.pairwise_iff_getElem] at hpw
    have hother : ∀ (k : Nat) (hk : k < (L.map Prod.fst).length) (x o : Nat), (L.map Prod.fst)[k].base = some ⟨x, o, none⟩ → x ≠ b := fun k hk x o ho e => by
      subst e
      exact hap x ((h.1 x).2 ⟨_, List.getElem_mem hk, o, ho⟩) ((hG x).2 rfl)
    intro i j hi hj hij x o o' h1 h2
    rw [List.length_set] at hi hj
    rw [List.getElem_set] at h1 h2
    by_cases e1 : d = i
    · rw [if_pos e1] at h1
      rw [if_neg (by omega)] at h2
      rw [hb] at h1
      simp only [Option.some.injEq, Addr.mk.injEq, and_true] at h1
      exact hother j hj x o' h2 h1.1.symm
    · rw [if_neg e1] at h1
      by_cases e2 : d = j
      · rw [if_pos e2, hb] at h2
        simp only [Option.some.injEq, Addr.mk.injEq, and_true] at h2
        exact hother i hi x o h1 h2.1.symm
      · rw [if_neg e2] at h2
        exact hpw i j hi hj hij x o o' h1 h2
  · obtain ⟨i, hi⟩ := List.mem_iff_getElem?.1 hp
    rw [List.getElem?_set] at hi
    split at hi
    · have hpe : p = (l, vs) := by first | (simpa using hi.symm) | (split at hi; · simpa using hi.symm; · cases hi)
      subst hpe
      refine .inr ⟨b, off, c, hb, hc, by simp only at hcap ⊢; omega, by simp only at hsz ⊢; omega, fun j v hj => ?_⟩
      have := hcell j [v] (by simp only at hj; rw [oneRows, List.getElem?_map, hj]; rfl) 0 v rfl
      simpa using this
    · exact h.2.2 p (List.mem_of_getElem? hi)
theorem own_group {i n g d : Nat} {us vs : List Value} {l0 : Loc} {T T' : TypeId} {L : List Cell1} {H : Heap} {S : Asn} {nx : Nat} {K : SV → Heap → Asn → Nat → Prop} (hg : (g, Ent.ext (grpO T L)) ∈ H) (hd : L[d]? = some (l0, us)) (hn : l0.base = none) (hT : T' = T) {rs : List (List Value)} (hrs : rs = oneRows vs) (hpos : 0 < vs.length)
    (h : ∀ l : Loc, vs.length ≤ l.cap → (∃ b off, l.base = some ⟨b, off, none⟩) → K (.c (.slice l.base n l.cap)) (setH g (.ext (grpO T (L.set d (l, vs)))) H) S nx) : ownK (.os i n) ((i, .rows rs 1 T') :: H) S nx K := by
  subst hT hrs
  refine own_turn (α := { l : Loc // vs.length ≤ l.cap ∧ ∃ b off, l.base = some ⟨b, off, none⟩ }) (fun l => .c (.slice l.1.base n l.1.cap)) (fun l => setH g (.ext (grpO T' (L.set d (l.1, vs)))) H) (fun _ => S) ?_ (fun l => h l.1 l.2.1 l.2.2)
  intro B ρ w hA
  obtain ⟨R, φ, hw⟩ := hA
  obtain ⟨hsep, hsepH⟩ := List.pairwise_cons.1 hw.sep
  have hrow := hw.ent _ List.mem_cons_self
  have hgrp : grpHolds T' L (φ g) w := hw.ent _ (List.mem_cons_of_mem _ hg)
  have hgi : ∀ b, φ g b → ¬ φ i b := fun b h1 h2 => (hsep _ hg).2 b h2 h1
  have hrow' : (Ent.rows (oneRows vs) 1 T').holds (fun _ => ρ i) (ρ i) (φ i) w := hrow
  obtain ⟨hnew, hbase⟩ := grp_add hgrp hd hn hrow' hpos hgi
  have hcap : vs.length ≤ (ρ i).cap := by have := hrow.2.1; simpa [oneRows] using this
  refine ⟨⟨ρ i, hcap, hbase⟩, rfl, SV.lt_c _, R, fun k b => if k = g then φ g b ∨ φ i b else φ k b, ?_⟩
  have hsub := hw.drop (List.sublist_cons_self _ _)
  refine ⟨hw.os, hw.tape, hw.output, hw.size, hw.pin, hw.ro, hw.asn, ?_, ?_, ?_, ?_⟩
  · intro p hp
    rcases mem_setH hp with ⟨rfl, _⟩ | hp
    · exact ⟨(hsub.key _ hg).1, fun y hy => by simp [Ent.hass] at hy⟩
    · exact hsub.key p hp
  · intro p hp
    by_cases hpg : p.1 = g
    · obtain ⟨pi, pe⟩ := p
      simp only at hpg
      subst hpg
      have hk : (setH pi (.ext (grpO T' (L.set d (ρ i, vs)))) H).Pairwise fun p q => p.1 ≠ q.1 ∧ True := by
        have : ((setH pi (.ext (grpO T' (L.set d (ρ i, vs)))) H).map (·.1)).Pairwise (· ≠ ·) := by
          rw [keys_setH]; exact List.pairwise_map.2 (hsepH.imp fun x => x.1)
        exact (List.pairwise_map.1 this).imp fun x => ⟨x, trivial⟩
      have h2 : pe = .ext (grpO T' (L.set d (ρ i, vs))) := keys_unique hk hp (mem_setH_self hg)
      subst h2
      show grpHolds T' (L.set d (ρ i, vs)) _ w
      simp only [if_pos rfl]
      exact hnew
    · have hpH : p ∈ H := by
        rcases mem_setH hp with ⟨rfl, _⟩ | hp'
        · exact absurd rfl hpg
        · exact hp'
      have := hsub.ent p hpH
      simp only [if_neg hpg]
      exact this
  · intro p hp b hb
    have hpk : p.1 ∈ H.map (·.1) := by
      have : p.1 ∈ (setH g (.ext (grpO T' (L.set d (ρ i, vs)))) H).map (·.1) := List.mem_map.2 ⟨p, hp, rfl⟩
      rwa [keys_setH] at this
    obtain ⟨q, hq, hqe⟩ := List.mem_map.1 hpk
    by_cases hpg : p.1 = g
    · simp only [if_pos hpg] at hb
      rcases hb with hb | hb
      · exact hsub.apart _ hg b hb
      · exact hw.apart _ List.mem_cons_self b hb
    · simp only [if_neg hpg] at hb
      exact hsub.apart q hq b (by rw [hqe]; exact hb)
  · have hkeys : (H.map (·.1)).Pairwise (fun a b => a ≠ b ∧ ∀ x, φ a x → ¬ φ b x) := List.pairwise_map.2 hsepH
    have hi : ∀ a ∈ H.map (·.1), ∀ x, φ i x → ¬ φ a x := fun a ha x hx => by
      obtain ⟨q, hq, rfl⟩ := List.mem_map.1 ha
      exact (hsep q hq).2 x hx
    have : ((setH g (.ext (grpO T' (L.set d (ρ i, vs)))) H).map (·.1)).Pairwise (fun a b => a ≠ b ∧ ∀ x, (if a = g then φ g x ∨ φ i x else φ a x) → ¬ (if b = g then φ g x ∨ φ i x else φ b x)) := by
      rw [keys_setH]
      refine hkeys.imp_of_mem fun {a b} ha hb hab => ⟨hab.1, fun x hx hx' => ?_⟩
      by_cases e1 : a = g
      · rw [if_pos e1] at hx
        have e2 : b ≠ g := fun e => hab.1 (e1.trans e.symm)
        rw [if_neg e2] at hx'
        rcases hx with hx | hx
        · exact hab.2 x (by rw [e1]; exact hx) hx'
        · exact hi b hb x hx hx'
      · rw [if_neg e1] at hx
        by_cases e2 : b = g
        · rw [if_pos e2] at hx'
          rcases hx' with hx' | hx'
          · exact hab.2 x hx (by rw [e2]; exact hx')
          · exact hi a ha x hx' hx
        · rw [if_neg e2] at hx'
          exact hab.2 x hx hx'
    exact List.pairwise_map.1 this
end Go.SX
/- SxZj -/
namespace Go.SX
open Go.RowKit
/-- a group of nil slices -/
theorem Wp.grp {cx : Cx} {c : Code} {env : Env} {H : Heap} {S : Asn} {nx : Nat} {K : Exit → Env → Heap → Asn → Nat → Prop} (T : TypeId) (n : Nat) (h : Wp cx c env ((nx, .ext (grpO T (List.replicate n (⟨none, 0⟩, [])))) :: H) S (nx + 1) K) : Wp cx c env H S nx K := by
  simp only [Wp_def] at *
  intro ρ a w hs hw
  obtain ⟨R, φ, hwR⟩ := hw
  refine wp_mono (h (upd ρ nx ⟨none, 0⟩) a w ⟨hs.defers, hs.size, fun t v hv ht => ?_, fun t v hv => (hs.lt t v hv).mono (Nat.le_succ _)⟩ ⟨R, _, hwR.add (F := fun _ => False) (fun y hy => by simp [Ent.hass] at hy) ?_ (fun _ hb => hb.elim) (fun _ _ _ _ hb => hb)⟩) ?_
  · rw [hs.val t v hv ht]
    exact congrArg some (SV.rf_lt (ρ := ρ) (ρ' := upd ρ nx ⟨none, 0⟩) (hs.lt t v hv) fun i hi => (upd_lt hi).symm)
  · show grpHolds T _ _ w
    have hn : ∀ l ∈ (List.replicate n ((⟨none, 0⟩, []) : Cell1)).map Prod.fst, l.base = none := fun l hl => by
      rw [List.map_replicate] at hl
      rw [(List.mem_replicate.1 hl).2]
    refine ⟨fun x => ⟨fun hx => hx.elim, fun ⟨l, hl, off, e⟩ => by rw [hn l hl] at e; cases e⟩, ?_, fun p hp => .inl (hn p.1 (List.mem_map.2 ⟨p, hp, rfl⟩))⟩
    rw [List.pairwise_iff_getElem]
    intro i j hi hj _ b off off' h1
    rw [hn _ (List.getElem_mem hi)] at h1
    cases h1
  · rintro e a' w' ⟨ρ', env', H', S', nx', h1, h2, h3, h4, h5⟩
    exact ⟨ρ', env', H', S', nx', fun i hi => (h1 i (by omega)).trans (upd_lt hi), by omega, h3, h4, h5⟩
/-- what a group's members are at the end: new -/
theorem grp_new {B : Base} {ρ : Nat → Loc} {nx : Nat} {H : Heap} {S : Asn} {w : World} {g : Nat} {T : TypeId} {L : List Cell1} (h : Abs B ρ nx H S w) (hS : ∀ R w', S.holds R w' → (baseA B.w0).holds R w') (hg : (g, Ent.ext (grpO T L)) ∈ H) {p : Cell1} (hp : p ∈ L) {b off : Nat} (hb : p.1.base = some ⟨b, off, none⟩) :
    B.w0.heap.size ≤ b ∧ b < w.heap.size ∧ ∀ (j : Nat) (v : Value), p.2[j]? = some v → w.cell? ⟨b, off + j, none⟩ = some v := by
  obtain ⟨R, φ, hw⟩ := h
  have hent : grpHolds T L (φ g) w := hw.ent _ hg
  obtain ⟨hF, c, hc, h1, h2, h3⟩ := grp_in hent hp hb
  refine ⟨Nat.le_of_not_lt fun hlt => hw.apart _ hg b hF (hS R w hw.asn b hlt).1, (Array.getElem?_eq_some_iff.1 hc).1, fun j v hj => ?_⟩
  simp [World.cell?, hc, h3 j v hj]
end Go.SX
