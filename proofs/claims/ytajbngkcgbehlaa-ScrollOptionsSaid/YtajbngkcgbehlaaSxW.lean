import Derived.Test.YtajbngkcgbehlaaSxV
import Derived.ProofKit
import Derived.OpenShut
import Derived.Deep.Slices
namespace Go.SX
open Go.RowKit Go.ChangeShapes Go.WideShapes Go.Deep

/-! ### Arguments: from the reading to what the walk asks -/
section
variable {P : Program} {w : World}

/-- whatever is read of this type has cells of this form -/
structure Opens (P : Program) (w : World) (t : TypeId) (Q : List Value → Prop) : Prop where
  out : ∀ {H : Type} (enc : TypeId × Value → H) (base : Nat) (sp : Nat → Bool) (held : Bool) (n : Nat) (cs : List Value) (x : DataW H × List MemPlace), DataW.trod enc P w base sp held n t cs = some x → Q cs

theorem Opens.mono {t : TypeId} {Q Q' : List Value → Prop} (h : Opens P w t Q) (hq : ∀ cs, Q cs → Q' cs) : Opens P w t Q' :=
  ⟨fun enc base sp held n cs x hx => hq cs (h.out enc base sp held n cs x hx)⟩

theorem opens_int {t : TypeId} {k : IntKind} (ht : P.underlying t = some (.int k)) : Opens P w t fun cs => ∃ i, (Lit.int k i).wf = true ∧ cs = [.int k i] := by
  constructor
  intro H enc base sp held n cs x h
  obtain ⟨i, h1, _, h2⟩ := DataW.trod_int ht h
  exact ⟨i, h2, h1⟩

theorem opens_bool {t : TypeId} (ht : P.underlying t = some .bool) : Opens P w t fun cs => ∃ b, cs = [.bool b] := by
  constructor
  intro H enc base sp held n cs x h
  obtain ⟨b, h1, _⟩ := DataW.trod_bool ht h
  exact ⟨b, h1⟩

def SliceQ (w : World) (k : Nat) (Q : List Value → Prop) (cs : List Value) : Prop :=
  ∃ (base : Option Addr) (cap : Nat) (xs : List (List Value)), cs = [.slice base xs.length cap] ∧ RowsI w base k xs ∧ (∀ r ∈ xs, r.length = k ∧ Q r) ∧ xs.length ≤ cap ∧ cap ≤ maxLen ∧ (base = none → cap = 0)

theorem cells?_get {w : World} {base : Nat} {a : Addr} {n : Nat} {cs : List Value} (h : w.cells? base a n = some cs) : cs.length = n ∧ ∀ j v, cs[j]? = some v → w.cell? (a.add j) = some v := by
  obtain ⟨_, hl, hc⟩ := World.cells?_some h
  refine ⟨hl, fun j v hv => ?_⟩
  have hj : j < n := by rw [← hl]; exact (List.getElem?_eq_some_iff.1 hv).1
  rw [← hv]
  exact hc j hj

theorem opens_slice {t e : TypeId} {k : Nat} {Q : List Value → Prop} (ht : P.underlying t = some (.slice e)) (hc : P.cellsOf e = k) (he : Opens P w e Q) : Opens P w t (SliceQ w k Q) := by
  constructor
  intro H enc base sp held n cs x h
  rcases open_slice ht h with ⟨rfl, _⟩ | ⟨a, len, cap, m, n', D, Pl, rfl, _, hl, hm, hmm, _, hx⟩
  · exact ⟨none, 0, [], rfl, .inl rfl, fun r hr => by simp at hr, Nat.le_refl _, Nat.zero_le _, fun _ => rfl⟩
  · have hlm : len ≤ m := by rw [hmm]; split <;> omega
    obtain ⟨f, hf⟩ := choose_lt (α := List Value) (n := len) (p := fun i r => w.cells? base (a.add (i * k)) k = some r ∧ Q r) (fun i hi => by
      obtain ⟨cs', h1, h2⟩ := hx i (by omega)
      rw [hc] at h1
      exact ⟨cs', h1, he.out enc base sp held n' cs' _ h2⟩)
    refine ⟨some a, cap, (List.range len).map f, by simp, .inr ⟨a, rfl, fun i r hr j v hv => ?_⟩, fun r hr => ?_, by simpa using hl, hm, fun h0 => by cases h0⟩
    · have hi : i < len := by have := (List.getElem?_eq_some_iff.1 hr).1; simpa using this
      rw [List.getElem?_map, List.getElem?_range hi] at hr
      simp only [Option.map_some, Option.some.injEq] at hr
      subst hr
      have := (cells?_get (hf i hi).1).2 j v hv
      rwa [Deep.add_add] at this
    · simp only [List.mem_map, List.mem_range] at hr
      obtain ⟨i, hi, rfl⟩ := hr
      exact ⟨(cells?_get (hf i hi).1).1, (hf i hi).2⟩

/-- the fields: offset, number of cells, form -/
theorem opens_struct {t : TypeId} {fs : Array Field} {k : Nat} {Q : Field → List Value → Prop} (ht : P.underlying t = some (.struct fs)) (hk : P.cellsOf t = k) (hf : ∀ f ∈ fs, Opens P w f.type (Q f)) :
    Opens P w t fun cs => cs.length = k ∧ ∀ f ∈ fs, Q f ((cs.drop f.offset).take (P.cellsOf f.type)) := by
  constructor
  intro H enc base sp held n cs x h
  obtain ⟨xs, n', _, _, hl, hlen, hx⟩ := DataW.trod_struct ht h
  refine ⟨hl.trans hk, fun f hfm => ?_⟩
  obtain ⟨i, hi, rfl⟩ := Array.mem_iff_getElem.1 hfm
  have h1 := hx i fs[i] (by simp [hi])
  rw [List.getElem?_eq_getElem (by omega)] at h1
  exact (hf _ hfm).out enc base sp held n' _ _ h1

theorem list_map_of {α : Type} {f : α → List Value} {p : α → Prop} : ∀ {xs : List (List Value)}, (∀ r ∈ xs, ∃ a, p a ∧ r = f a) → ∃ l : List α, xs = l.map f ∧ ∀ a ∈ l, p a
  | [], _ => ⟨[], rfl, fun _ h => by simp at h⟩
  | r :: xs, h => by
    obtain ⟨a, ha, rfl⟩ := h r (by simp)
    obtain ⟨l, rfl, hl⟩ := list_map_of (xs := xs) fun r hr => h r (by simp [hr])
    exact ⟨a :: l, rfl, fun b hb => by rcases List.mem_cons.1 hb with rfl | hb; exact ha; exact hl b hb⟩

/-- a slice of ints -/
def IntsQ (w : World) (v : Value) (base : Option Addr) (cap : Nat) (xs : List Int) : Prop :=
  v = .slice base xs.length cap ∧ RowsI w base 1 (ints xs) ∧ (∀ x ∈ xs, (Lit.int .i64 x).wf = true) ∧ xs.length ≤ cap ∧ cap ≤ maxLen ∧ (base = none → cap = 0)

theorem opens_ints {t e : TypeId} (ht : P.underlying t = some (.slice e)) (he : P.underlying e = some (.int .i64)) (hc : P.cellsOf e = 1) : Opens P w t fun cs => ∃ v base cap xs, cs = [v] ∧ IntsQ w v base cap xs := by
  refine Opens.mono (opens_slice ht hc (opens_int he)) ?_
  rintro cs ⟨base, cap, xs, rfl, h1, h2, h3, h4, h5⟩
  obtain ⟨l, rfl, hl⟩ := list_map_of (f := fun i => [.int .i64 i]) (p := fun i => (Lit.int .i64 i).wf = true) fun r hr => (h2 r hr).2
  exact ⟨_, base, cap, l, by simp, rfl, h1, hl, by simpa using h3, h4, h5⟩

theorem cells_slice {v : Value} {b : Option Addr} {l c : Nat} {t e : TypeId} {r : Reach} {b0 : Nat} (ht : P.underlying t = some (.slice e)) (hv : Value.okWide P w r b0 t v) (h : v.cells.toList = [.slice b l c]) : v = .slice b l c := by
  obtain ⟨a, l', c', rfl⟩ := okWide_slice ht hv
  simpa [Value.cells] using h
theorem cells_int {v : Value} {k : IntKind} {i : Int} {t : TypeId} {r : Reach} {b0 : Nat} (ht : P.underlying t = some (.int k)) (hv : Value.okWide P w r b0 t v) (h : v.cells.toList = [.int k i]) : v = .int k i := by
  obtain ⟨n, rfl⟩ := okWide_int ht hv
  simpa [Value.cells] using h
theorem cells_agg {v : Value} {cs : List Value} {t : TypeId} {fs : Array Field} {r : Reach} {b0 : Nat} (ht : P.underlying t = some (.struct fs)) (hv : Value.okWide P w r b0 t v) (h : v.cells.toList = cs) : v = .agg cs.toArray := by
  simp only [Value.okWide, ht] at hv
  obtain ⟨c, rfl, _⟩ := hv
  simp only [Value.cells] at h
  rw [← h]
end

/-! ### The law's end -/
section
variable {H : Type} {enc : TypeId × Value → H} {P : Program}

theorem trodAll_stays (hl : laidOutB P = true) {W W' : World} (hE : Ext W W') {sp : Nat → Bool} : ∀ (ts : List TypeId) (vs : List Value) (ds : List (DataW H)) (ps : List MemPlace),
    (∀ t ∈ ts, P.readableRec t = true ∧ t < P.types.size) → DataW.TrodAll enc P W 0 (fun _ => true) true ts vs ds ps → (∀ p ∈ ps, p.block < W.heap.size) → (∀ p ∈ ps, sp p.block = true) → DataW.TrodAll enc P W' 0 sp true ts vs ds ps
  | [], [], [], ps, _, h, _, _ => h
  | t :: ts, v :: vs, d :: ds, ps, ht, h, hlt, hs => by
    obtain ⟨p, q, h1, h2, rfl⟩ := h
    refine ⟨p, q, ?_, trodAll_stays hl hE ts vs ds q (fun u hu => ht u (by simp [hu])) h2 (fun x hx => hlt x (by simp [hx])) (fun x hx => hs x (by simp [hx])), rfl⟩
    exact WideElems.Trod_stays hl (ht t (by simp)).1 (ht t (by simp)).2 h1 (fun x hx => hE.same (hlt x (by simp [hx]))) (fun x hx => hs x (by simp [hx]))
  | [], _ :: _, _, _, _, h, _, _ => by simp [DataW.TrodAll] at h
  | [], [], _ :: _, _, _, h, _, _ => by simp [DataW.TrodAll] at h
  | _ :: _, [], _, _, _, h, _, _ => by simp [DataW.TrodAll] at h
  | _ :: _, _ :: _, [], _, _, h, _, _ => by simp [DataW.TrodAll] at h

/-- 'true, and the arguments read as they did' -/
theorem law_post {f : Func} {s : ChangeSpec} {apart fresh handsOn again : Bool} {W W' : World} {args : Array Value} {ds gs : List (DataW H)} {before : List MemPlace} {t : TypeId}
    (hl : laidOutB P = true) (hr : (f.params.toList.all fun t => P.readableRec t && decide (t < P.types.size)) = true) (hvars : s.vars = []) (hres : f.resultTypes = #[t]) (ht : P.underlying t = some .bool)
    (hfn : s.fn H ds = { results := [.lit (.bool true)], args := ds })
    (hW : DataW.Whole enc P f.params.toList s.vars apart W args.toList ds gs before) (hE : Ext W W') : s.post enc P f apart fresh handsOn again W args (.bool true) W' := by
  have hlt := hW.lt
  obtain ⟨p, q, hA, hV, hpq, _⟩ := id hW
  rw [hvars] at hV
  obtain ⟨rfl, rfl⟩ := trodVars_none hV
  have hfn' : s.fn H (ds ++ []) = { results := [.lit (.bool true)], args := ds } := by rw [List.append_nil]; exact hfn
  have hall : ∀ t ∈ f.params.toList, P.readableRec t = true ∧ t < P.types.size := fun t ht => by simpa using List.all_eq_true.1 hr t ht
  rw [List.append_nil] at hpq
  subst hpq
  have hres' : ∀ b sp hd, DataW.TrodAll enc P W' b sp hd f.resultTypes.toList ((Value.bool true).resultList f.resultTypes.size) (s.fn H (ds ++ [])).results [] := by
    intro b sp hd
    rw [hfn', hres]
    exact trodAll_mk1 (shut_bool ht _)
  have hargs : ∀ sp : Nat → Bool, (∀ x ∈ before, sp x.block = true) → DataW.TrodAll enc P W' 0 sp true f.params.toList args.toList (s.fn H (ds ++ [])).args before := by
    intro sp hsp
    rw [hfn']
    exact trodAll_stays hl hE _ _ _ _ hall hA hlt hsp
  have hvs : ∀ sp : Nat → Bool, DataW.TrodVars enc P W' sp s.vars (s.fn H (ds ++ [])).vars [] := by
    intro sp
    rw [hfn', hvars]
    rfl
  refine ⟨ds, [], before, [], before, [], hW, hres' _ _ _, hargs _ (fun x hx => by simpa using hlt x hx), hvs _, hE.frame _, fun _ => ?_⟩
  refine ⟨ok_one hres rfl (okWide_bool_mk ht _), _, _, ([] ++ before) ++ [], ⟨[] ++ before, [], trodAll_append (hargs _ (fun _ _ => rfl)) (hres' _ _ _), hvs _, rfl, ?_, ?_⟩, ?_⟩
  · intro b off hp
    obtain ⟨_, _, _, _, _, hz, _⟩ := hW
    have hp' : MemPlace.cell b off ∈ before := by simpa using hp
    rw [hE.frozen (hlt _ hp')]
    exact hz b off hp'
  · intro ha
    obtain ⟨_, _, _, _, _, _, hn⟩ := hW
    simpa using hn ha
  · intro p hp _
    simpa using hp

/-- the law's contract from its walk -/
theorem law_contract {f : Func} {n : FuncId} {s : ChangeSpec} {apart fresh handsOn again : Bool} {W : World} {args : Array Value} {ds gs : List (DataW H)} {before : List MemPlace} {t : TypeId}
    (hl : laidOutB P = true) (hr : (f.params.toList.all fun t => P.readableRec t && decide (t < P.types.size)) = true) (hvars : s.vars = []) (hres : f.resultTypes = #[t]) (ht : P.underlying t = some .bool)
    (hfn : s.fn H ds = { results := [.lit (.bool true)], args := ds })
    (hW : DataW.Whole enc P f.params.toList s.vars apart W args.toList ds gs before)
    (hc : Calls P n args W fun e W' => e = .returned (.bool true) ∧ Ext W W') :
    Calls P n args W fun e W' => ∃ v, e = .returned v ∧ s.post enc P f apart fresh handsOn again W args v W' :=
  hc.mono fun _ _ ⟨he, hE⟩ => ⟨_, he, law_post hl hr hvars hres ht hfn hW hE⟩
end
end Go.SX
