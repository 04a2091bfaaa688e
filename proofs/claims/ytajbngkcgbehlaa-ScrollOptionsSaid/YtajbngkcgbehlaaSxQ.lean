import Derived.Test.YtajbngkcgbehlaaSxP
namespace Go.SX
open Go.RowKit

/-! ### The end of a function, and its beginning -/
/-- what is handed back must meet R in every world at hand -/
structure finK (B : Base) (v : SV) (H : Heap) (S : Asn) (nx : Nat) (R : Ending → World → Prop) : Prop where
  out : ∀ ρ w, Abs B ρ nx H S w → R (.returned (v.rf ρ)) w
theorem finK_def {B : Base} {v : SV} {H : Heap} {S : Asn} {nx : Nat} {R : Ending → World → Prop} : finK B v H S nx R = (∀ ρ w, Abs B ρ nx H S w → R (.returned (v.rf ρ)) w) := propext ⟨fun h => h.out, fun h => ⟨h⟩⟩

def resK (cx : Cx) (env : Env) (H : Heap) (S : Asn) (K : List SV → Prop) : List ResultVar → Prop
  | [] => K []
  | .tmp t :: r => bif Nat.ble cx.n t then False else getK t (fun v => resK cx env H S (fun l => K (v :: l)) r) env
  | .cell a t :: r => bif Nat.ble cx.n a then False else getK a (fun p => match p with
      | .lp i j k f => loadQ cx t (.lp i j k f) H S (fun v => resK cx env H S (fun l => K (v :: l)) r)
      | _ => False) env
def oneOf : List SV → SV
  | [v] => v
  | l => .tup l
def retK (cx : Cx) (rs : List ResultVar) (R : Ending → World → Prop) : Exit → Env → Heap → Asn → Nat → Prop
  | .normal, env, H, S, nx => resK cx env H S (fun l => finK cx.B (oneOf l) H S nx R) rs
  | .ret, env, H, S, nx => resK cx env H S (fun l => finK cx.B (oneOf l) H S nx R) rs
  | _, _, _, _, _ => False

section
variable {cx : Cx} (hok : ∀ p ∈ cx.tab, mkTI cx.P p.1 = some p.2)

def resOne (tmps : Array Value) : ResultVar → Sem Value := fun
    | .tmp t => pure (tmps.getD t undef)
    | .cell a t => do loadVar t (← asAddr (tmps.getD a undef))

include hok in
theorem resK_spec {env : Env} {H : Heap} {S : Asn} {nx : Nat} {ρ : Nat → Loc} {a : Act} {w : World} (hs : Sat cx.n ρ nx env a) (hw : Abs cx.B ρ nx H S w) : ∀ {rs : List ResultVar} {K : List SV → Prop}, resK cx env H S K rs →
    ∃ l, K l ∧ SV.lts nx l ∧ (rs.mapM (resOne a.tmps)).run cx.P w = .ok (SV.rfs ρ l) w
  | [], K, h => ⟨[], h, fun i hi => by simp [SV.hass] at hi, by simp [SV.rfs]⟩
  | .tmp t :: r, K, h => by
    unfold resK at h
    cases hb : Nat.ble cx.n t with
    | true => rw [hb] at h; exact h.elim
    | false =>
      rw [hb, cond_false] at h
      have ht : t < cx.n := by
        rcases Nat.lt_or_ge t cx.n with h' | h'
        · exact h'
        · rw [Nat.ble_eq_true_of_le h'] at hb; cases hb
      obtain ⟨v, hv, h⟩ := getK_spec h
      obtain ⟨l, h1, h2, h3⟩ := resK_spec hs hw h
      have hv' := hs.val t v hv ht
      refine ⟨v :: l, h1, fun i hi => ?_, ?_⟩
      · simp only [SV.hass, Bool.or_eq_true] at hi
        exact hi.elim (hs.lt t v hv i) (h2 i)
      · simp [List.mapM_cons, resOne, Array.getD_eq_getD_getElem?, hv', h3, SV.rfs]
  | .cell x t :: r, K, h => by
    unfold resK at h
    cases hb : Nat.ble cx.n x with
    | true => rw [hb] at h; exact h.elim
    | false =>
      rw [hb, cond_false] at h
      have ht : x < cx.n := by
        rcases Nat.lt_or_ge x cx.n with h' | h'
        · exact h'
        · rw [Nat.ble_eq_true_of_le h'] at hb; cases hb
      obtain ⟨p, hp, h⟩ := getK_spec h
      match p, hp, h with
      | .lp i j k f, hp, h =>
        have hH : ∀ q ∈ H, q.2.lt nx := fun q hq => by obtain ⟨R, φ, hw1⟩ := hw; exact (hw1.key q hq).2
        obtain ⟨v, h4, h5, h6⟩ := loadQ_sound hok (ρ := ρ) (nx := nx) h hH
        obtain ⟨l, h1, h2, h3⟩ := resK_spec hs hw h5
        have hp' := hs.val x _ hp ht
        have h6 := h6 w hw
        refine ⟨v :: l, h1, fun i hi => ?_, ?_⟩
        · simp only [SV.hass, Bool.or_eq_true] at hi
          exact hi.elim (h4 i) (h2 i)
        · simp only [Instr.loadAt] at h6
          have h7 : (asAddr ((SV.lp i j k f).rf ρ) >>= fun a => loadVar t a).run cx.P w = .ok (v.rf ρ) w := by
            revert h6
            simp only [SV.rf]
            cases (ρ i).base with
            | none => intro h6; simp [Instr.sureAddr] at h6
            | some b => intro h6; simpa [Instr.sureAddr, asAddr] using h6
          simp only [List.mapM_cons, resOne, Array.getD_eq_getD_getElem?, hp', Option.getD_some, Sem.run_bind (P := cx.P)]
          simp only [Sem.run_bind] at h7
          rw [h7]
          simp [h3, SV.rfs]

theorem results_run {fn : Func} {tmps : Array Value} {P : Program} {w : World} {l : List Value} (h : (fn.results.toList.mapM (resOne tmps)).run P w = .ok l w) :
    (results fn tmps).run P w = .ok (if h : l.toArray.size = 1 then l.toArray[0] else .tuple l.toArray) w := by
  have e : results fn tmps = (do let vs ← fn.results.mapM (resOne tmps); pure (if h : vs.size = 1 then vs[0] else .tuple vs)) := rfl
  rw [e, Array.mapM_eq_mapM_toList]
  simp [h]

theorem oneOf_rf (ρ : Nat → Loc) (l : List SV) : (oneOf l).rf ρ = (if h : (SV.rfs ρ l).toArray.size = 1 then (SV.rfs ρ l).toArray[0] else .tuple (SV.rfs ρ l).toArray) := by
  match l with
  | [] => rfl
  | [v] => rfl
  | a :: b :: r => simp [oneOf, SV.rf, SV.rfs]

def number : Nat → List SV → Env
  | _, [] => []
  | n, v :: r => (n, v) :: number (n + 1) r
theorem number_get : ∀ {l : List SV} {n t : Nat} {v : SV}, (number n l).get t = some v → ∃ j, t = n + j ∧ l[j]? = some v
  | [], n, t, v, h => by cases h
  | u :: r, n, t, v, h => by
    simp only [number, Env.get_cons] at h
    by_cases hn : n = t
    · rw [if_pos hn] at h
      exact ⟨0, by omega, by simpa using h⟩
    · rw [if_neg hn] at h
      obtain ⟨j, h1, h2⟩ := number_get h
      exact ⟨j + 1, by omega, by simpa using h2⟩
end

/-- A FUNCTION's CONTRACT OUT OF A WALK. -/
theorem calls_of {P : Program} {f : FuncId} {fn : Func} {c : Code} {n : Nat} {rs : List ResultVar} (tab : List (Nat × TI)) (hok : ∀ p ∈ tab, mkTI P p.1 = some p.2) (hf : P.funcs[f]? = some fn) (hb : fn.body = some c) (hn : fn.ntmps = n) (hrs : fn.results.toList = rs)
    {w : World} {args : Array Value} (pin : List (Nat × Loc)) (ρ0 : Nat → Loc) (svs : List SV) (H0 : Heap) (S0 : Asn) (nx0 : Nat) (hargs : args = (SV.rfs ρ0 svs).toArray) (hlt : SV.bnds nx0 svs = true) (hlen : svs.length ≤ n)
    (habs : Abs ⟨w, pin⟩ ρ0 nx0 H0 S0 w) {R : Ending → World → Prop} (h : Wp ⟨P, ⟨w, pin⟩, n, tab⟩ c (number 0 svs) H0 S0 nx0 (retK ⟨P, ⟨w, pin⟩, n, tab⟩ rs R)) : Calls P f args w R := by
  subst hn
  subst hrs
  refine calls_of_wp hf hb ?_
  rw [Wp_def] at h
  have hsz : args.size = svs.length := by subst hargs; simp [rfs_length]
  refine wp_mono (h ρ0 _ w ?_ habs) ?_
  · refine ⟨rfl, by simp; omega, fun t v hv ht => ?_, fun t v hv => ?_⟩
    · obtain ⟨j, rfl, hj⟩ := number_get hv
      have hjl := (List.getElem?_eq_some_iff.1 hj).1
      simp only [Nat.zero_add]
      rw [Array.getElem?_append_left (by omega)]
      subst hargs
      simp [SV.rfs_eq, hj]
    · obtain ⟨j, rfl, hj⟩ := number_get hv
      exact SV.lts_iff.1 (SV.bnds_lt hlt) v (List.mem_of_getElem? hj)
  · rintro e a' w' ⟨ρ', env', H', S', nx', h2, h3, h4, h5, h6⟩
    have fin : ∀ {Q : Prop}, (resK ⟨P, ⟨w, pin⟩, fn.ntmps, tab⟩ env' H' S' (fun l => finK ⟨w, pin⟩ (oneOf l) H' S' nx' R) fn.results.toList) → (a'.defers = [] ∧ ∃ v, (results fn a'.tmps).run P w' = .ok v w' ∧ R (.returned v) w') := by
      intro Q h6
      obtain ⟨l, g1, g2, g3⟩ := resK_spec (cx := ⟨P, ⟨w, pin⟩, fn.ntmps, tab⟩) hok h4 h5 h6
      rw [finK_def] at g1
      have := g1 ρ' w' h5
      rw [oneOf_rf] at this
      exact ⟨h4.defers, _, results_run g3, this⟩
    cases e with
    | normal => exact fin (Q := True) h6
    | ret => exact fin (Q := True) h6
    | _ => exact h6.elim

/-! ### Facts to begin with -/
/-- All that was there at the start stands as it did. -/
def baseA (w0 : World) : Asn where
  holds R w := ∀ b, b < w0.heap.size → R b ∧ w.heap[b]? = w0.heap[b]?
  stable := fun hR hw h b hb => ⟨hR b (h b hb).1, (hw b (h b hb).1).trans (h b hb).2⟩
theorem abs_base (w : World) : Abs ⟨w, []⟩ (fun _ => ⟨none, 0⟩) 0 [] (baseA w) w :=
  ⟨fun b => b < w.heap.size, fun _ _ => False, rfl, rfl, rfl, Nat.le_refl _, by simp, fun _ h => h, fun b hb => ⟨hb, rfl⟩, by simp, by simp, by simp, .nil⟩

theorem ext_of_abs {B : Base} {ρ : Nat → Loc} {nx : Nat} {H : Heap} {S : Asn} {w : World} (h : Abs B ρ nx H S w) (hS : ∀ R w', S.holds R w' → (baseA B.w0).holds R w') : Ext B.w0 w := by
  obtain ⟨R, φ, h⟩ := h
  exact ⟨h.os, h.tape, h.output, h.size, fun b hb => (hS R w h.asn b hb).2⟩

end Go.SX
