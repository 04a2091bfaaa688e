import Derived.Test.YtajbngkcgbehlaaSxI
namespace Go.SX
open Go.RowKit

theorem setFrom_get {α : Type} : ∀ (vs l : List α) (off p : Nat), off + vs.length ≤ l.length → (setFrom l off vs)[p]? = if off ≤ p ∧ p < off + vs.length then vs[p - off]? else l[p]?
  | [], l, off, p, _ => by
    rw [if_neg (by simp only [List.length_nil]; omega)]; rfl
  | v :: r, l, off, p, h => by
    simp only [List.length_cons] at h
    have ih := setFrom_get r (l.set off v) (off + 1) p (by simp; omega)
    simp only [setFrom, ih, List.length_cons]
    by_cases h1 : off + 1 ≤ p ∧ p < off + 1 + r.length
    · rw [if_pos h1, if_pos (by omega)]
      have : p - off = (p - (off + 1)) + 1 := by omega
      rw [this]; rfl
    · rw [if_neg h1]
      by_cases h2 : p = off
      · subst h2
        rw [if_pos (by omega), List.getElem?_set_self (by omega)]
        simp
      · rw [if_neg (by omega), List.getElem?_set_ne (by omega)]

theorem setFrom_eq {α : Type} (vs l : List α) (off : Nat) (h : off + vs.length ≤ l.length) : setFrom l off vs = l.take off ++ vs ++ l.drop (off + vs.length) := by
  apply List.ext_getElem?
  intro p
  rw [setFrom_get vs l off p h]
  by_cases h1 : off ≤ p ∧ p < off + vs.length
  · rw [if_pos h1, List.append_assoc, List.getElem?_append_right (by simp; omega), List.getElem?_append_left (by simp; omega)]
    congr 1; simp; omega
  · rw [if_neg h1]
    by_cases h2 : p < off
    · rw [List.append_assoc, List.getElem?_append_left (by simp; omega), List.getElem?_take, if_pos h2]
    · rw [List.getElem?_append_right (by simp; omega), List.getElem?_drop]
      congr 1; simp; omega

theorem step_setRow (w : World) (g : Nat) (c : Array Value) : Step (fun b => b = g) w (w.setRow g c) where
  os := rfl
  tape := rfl
  output := rfl
  size := by simp [World.setRow]
  block := fun b _ hne => by
    simp only [World.setRow, Array.getElem?_modify]
    rw [if_neg (fun e => hne e.symm)]

theorem run_storeVar_at {P : Program} {t : TypeId} {ti : TI} (h : mkTI P t = some ti) {w : World} {b off : Nat} {c : Array Value} {T : TypeId} {v : Value} (hb : w.heap[b]? = some (.cells c T (0, 0)))
    (hsz : v.cells.size = ti.size) (hfit : off + v.cells.size ≤ c.size) (h1 : ∀ u ∈ v.cells.toList, u.oneCell' = true) :
    (storeVar t ⟨b, off, none⟩ v).run P w = .ok () (w.setRow b (setFrom c.toList off v.cells.toList).toArray) := by
  obtain ⟨i, d, z, hi, hd, hz, rfl⟩ := mkTI_spec h
  have := run_storeCells_at P b off T v.cells.toList 0 c w hb (by simpa using hfit) h1
  unfold storeVar
  simp only at hsz
  simp only [Sem.run_bind, run_sizeOf_of hi, Result.andThen_ok, hsz]
  rw [setFrom_eq _ _ _ (by simpa using hfit)]
  simpa using this

/-- What goes on behind an operation. -/
def Nexts (cx : Cx) (ρ : Nat → Loc) (nx : Nat) (K : SV → Heap → Asn → Nat → Prop) (next : Value → World → Prop) : Prop :=
  ∀ v ρ' H' S' nx' w', (∀ i, i < nx → ρ' i = ρ i) → nx ≤ nx' → SV.lt nx' v → Abs cx.B ρ' nx' H' S' w' → K v H' S' nx' → next (v.rf ρ') w'

def RowsAt (c : Array Value) (off k : Nat) (xs : List (List Value)) : Prop := ∀ i r, xs[i]? = some r → ∀ j v, r[j]? = some v → c[off + i * k + j]? = some v

def oneV : SV → Bool
  | .c (.agg _) => false | .c (.tuple _) => false | .agg _ => false | .tup _ => false | .c (.bool _) | .c (.int _ _) | .c (.string _) | .c (.pointer _) | .c (.slice _ _ _) | .c (.map _) | .c (.func _ _ _) | .c .nilFunc | .c (.iface _ _) | .c .nilIface => true
  | .c _ => false
  | _ => true
theorem oneV_spec {v : SV} (h : oneV v = true) (ρ : Nat → Loc) : (v.rf ρ).oneCell' = true := by
  cases v with
  | c u => cases u <;> first | rfl | (simp [oneV] at h)
  | agg l => simp [oneV] at h
  | tup l => simp [oneV] at h
  | _ => rfl
def oneVs : List SV → Bool
  | [] => true
  | v :: r => bif oneV v then oneVs r else false
theorem oneVs_spec {l : List SV} (h : oneVs l = true) : ∀ v ∈ l, oneV v = true := by
  induction l with
  | nil => simp
  | cons a r ih =>
    unfold oneVs at h
    cases ha : oneV a with
    | false => simp [ha] at h
    | true =>
      rw [ha, cond_true] at h
      intro v hv
      rcases List.mem_cons.1 hv with rfl | hv
      · exact ha
      · exact ih h v hv

/-- plain values alone -/
def valsK (K : List Value → Prop) : List SV → Prop
  | [] => K []
  | .c v :: r => valsK (fun l => K (v :: l)) r
  | _ => False
theorem valsK_spec : ∀ {l : List SV} {K : List Value → Prop}, valsK K l → ∃ vs, K vs ∧ ∀ ρ, SV.rfs ρ l = vs
  | [], K, h => ⟨[], h, fun _ => rfl⟩
  | .c v :: r, K, h => by
    obtain ⟨vs, h1, h2⟩ := valsK_spec (l := r) h
    exact ⟨v :: vs, h1, fun ρ => by simp [SV.rfs, SV.rf, h2 ρ]⟩
/-- a store into a row -/
structure rowStoreK (xs : List (List Value)) (j f : Nat) (vs : List Value) (K : List (List Value) → Prop) : Prop where
  out : ∃ r, xs[j]? = some r ∧ f + vs.length ≤ r.length ∧ K (xs.set j (setFrom r f vs))
theorem rowStoreK_def {xs : List (List Value)} {j f : Nat} {vs : List Value} {K : List (List Value) → Prop} : rowStoreK xs j f vs K = (∃ r, xs[j]? = some r ∧ f + vs.length ≤ r.length ∧ K (xs.set j (setFrom r f vs))) := propext ⟨fun h => h.out, fun h => ⟨h⟩⟩

def storeE (cx : Cx) (t : TypeId) (p x : SV) (H : Heap) (K : Heap → Prop) : Prop :=
  tabK t (fun ti => match p with
    | .lp i j k f => findK i (fun e => cellsK (fun vs => bif Nat.beq vs.length ti.size then (bif oneVs vs then (match e with
        | .box l T => putsK (fun l' => setHK i (.box l' T) K H) l (j * k + f) vs
        | .rows xs k' T => bif Nat.beq k k' then valsK (fun us => rowStoreK xs j f us fun xs' => setHK i (.rows xs' k' T) K H) vs else False
        | .ext _ => False) else False) else False) x) H
    | _ => False) cx.tab

theorem rows_store {c : Array Value} {off k j f : Nat} {xs : List (List Value)} {r vs : List Value} (hx : RowsAt c off k xs) (hk : ∀ r ∈ xs, r.length = k) (hr : xs[j]? = some r) (hf : f + vs.length ≤ r.length)
    (hc : off + xs.length * k ≤ c.size) : RowsAt (setFrom c.toList (off + (j * k + f)) vs).toArray off k (xs.set j (setFrom r f vs)) := by
  have hjl : j < xs.length := (List.getElem?_eq_some_iff.1 hr).1
  have hrk : r.length = k := hk r (List.mem_of_getElem? hr)
  have hjk : (j + 1) * k ≤ xs.length * k := Nat.mul_le_mul_right k hjl
  rw [Nat.succ_mul] at hjk
  have hfit : off + (j * k + f) + vs.length ≤ c.toList.length := by simp; omega
  intro i r' hr' q v hv
  rw [List.getElem?_toArray, setFrom_get _ _ _ _ hfit]
  by_cases hij : i = j
  · subst hij
    have e : r' = setFrom r f vs := by
      have : (xs.set i (setFrom r f vs))[i]? = some (setFrom r f vs) := by simp [hjl]
      rw [this] at hr'; exact (by simpa using hr'.symm)
    subst e
    rw [setFrom_get _ _ _ _ hf] at hv
    by_cases h1 : f ≤ q ∧ q < f + vs.length
    · rw [if_pos h1] at hv
      rw [if_pos (by omega)]
      rw [← hv]; congr 1; omega
    · rw [if_neg h1] at hv
      rw [if_neg (by omega)]
      have := hx i r hr q v hv
      rw [Array.getElem?_toList]; exact this
  · rw [List.getElem?_set_ne (Ne.symm hij)] at hr'
    have hq : q < k := by
      have := (List.getElem?_eq_some_iff.1 hv).1
      rw [hk r' (List.mem_of_getElem? hr')] at this
      exact this
    have hne : ¬ (off + (j * k + f) ≤ off + i * k + q ∧ off + i * k + q < off + (j * k + f) + vs.length) := by
      rcases Nat.lt_or_gt_of_ne hij with h | h
      · have : (i + 1) * k ≤ j * k := Nat.mul_le_mul_right k h
        rw [Nat.succ_mul] at this
        omega
      · have : (j + 1) * k ≤ i * k := Nat.mul_le_mul_right k h
        rw [Nat.succ_mul] at this
        omega
    rw [if_neg hne, Array.getElem?_toList]
    exact hx i r' hr' q v hv

section
variable {cx : Cx} (hok : ∀ p ∈ cx.tab, mkTI cx.P p.1 = some p.2)

include hok in
theorem storeE_sound {t : TypeId} {p x : SV} {ρ : Nat → Loc} {nx : Nat} {H : Heap} {S : Asn} {K : Heap → Prop} {w : World} (h : storeE cx t p x H K) (hx : x.lt nx) (hw : Abs cx.B ρ nx H S w) :
    ∃ w' H', (Instr.storeAt t (p.rf ρ) (x.rf ρ)).run cx.P w = .ok () w' ∧ Abs cx.B ρ nx H' S w' ∧ K H' := by
  unfold storeE at h
  obtain ⟨ti, hti, h⟩ := tabK_spec hok h
  match p, h with
  | .lp i j k f, h =>
  dsimp only at h
  obtain ⟨e, he, h⟩ := findK_spec h
  obtain ⟨vs, h, hvs, hcs⟩ := cellsK_spec hx h
  cases hb1 : Nat.beq vs.length ti.size with
  | false => rw [hb1] at h; exact h.elim
  | true =>
  rw [hb1, cond_true] at h
  cases hb2 : oneVs vs with
  | false => rw [hb2] at h; exact h.elim
  | true =>
  rw [hb2, cond_true] at h
  have hsz := Nat.eq_of_beq_eq_true hb1
  have hone : ∀ u ∈ (x.rf ρ).cells.toList, u.oneCell' = true := by
    intro u hu
    rw [hcs ρ] at hu
    simp only [SV.rfs_eq, List.mem_map] at hu
    obtain ⟨v, hv, rfl⟩ := hu
    exact oneV_spec (oneVs_spec hb2 v hv) ρ
  cases e with
  | box l T =>
    dsimp only at h
    obtain ⟨h1, h2⟩ := putsK_spec h
    rw [setHK_eq] at h2
    have hkey : (Ent.box l T).lt nx := by obtain ⟨R, φ, hw⟩ := hw; exact (hw.key _ he).2
    have hb : ∃ b, (ρ i).base = some ⟨b, 0, none⟩ ∧ w.heap[b]? = some (.cells (SV.rfs ρ l).toArray T (0, 0)) := by
      obtain ⟨R, φ, hw⟩ := hw
      obtain ⟨b, hb1, hb2, hb3⟩ := hw.ent _ he
      exact ⟨b, hb1, hb3⟩
    obtain ⟨b, hb, hblk⟩ := hb
    have hfit : j * k + f + vs.length ≤ l.length ∨ vs = [] := h1.symm
    by_cases hnil : vs = []
    · subst hnil
      simp only [setFrom] at h2
      have hsame : setH i (.box l T) H = H ∨ True := .inr trivial
      have hempty : (x.rf ρ).cells = #[] := by rw [hcs ρ]; rfl
      refine ⟨w, _, ?_, ?_, h2⟩
      · obtain ⟨ii, d, z, hi, hd, hz, rfl⟩ := mkTI_spec hti
        simp only [SV.rf, map_add_some hb, Instr.storeAt, Instr.sureAddr, Sem.run_bind, Sem.run_pure, Result.andThen_ok]
        unfold storeVar
        have : ii.size = 0 := by simpa using hsz.symm
        simp [run_sizeOf_of hi, hempty, this, storeCells]
      · exact hw.store he hkey fun F hF => ⟨⟨rfl, rfl, rfl, Nat.le_refl _, fun _ _ _ => rfl⟩, hF⟩
    · have hfit := hfit.resolve_right hnil
      refine ⟨w.setRow b (setFrom (SV.rfs ρ l).toArray.toList (0 + (j * k + f)) (x.rf ρ).cells.toList).toArray, _, ?_, ?_, h2⟩
      · simp only [SV.rf, map_add_some hb, Instr.storeAt, Instr.sureAddr, Sem.run_bind, Sem.run_pure, Result.andThen_ok]
        exact run_storeVar_at hti hblk (by rw [hcs ρ]; simp [rfs_length, hsz]) (by rw [hcs ρ]; simp [rfs_length]; omega) hone
      · refine hw.store he (fun y hy => lts_setFrom hkey hvs y hy) fun F hF => ?_
        obtain ⟨b', hb1', hb2', hb3'⟩ := hF
        obtain rfl : b = b' := by rw [hb] at hb1'; simpa using hb1'
        refine ⟨⟨rfl, rfl, rfl, by simp [World.setRow], fun x hx hne => (step_setRow w b _).block x hx (fun e => hne ((hb2' x).2 e))⟩, b, hb1', hb2', ?_⟩
        rw [setRow_heap w b _ _ T _ hblk]
        rw [hcs ρ, rfs_setFrom]
        simp
  | rows xs k' T =>
    dsimp only at h
    cases hbk : Nat.beq k k' with
    | false => rw [hbk] at h; exact h.elim
    | true =>
    rw [hbk, cond_true] at h
    obtain rfl := Nat.eq_of_beq_eq_true hbk
    obtain ⟨us, h, hus⟩ := valsK_spec h
    rw [rowStoreK_def] at h
    obtain ⟨r, hr, hf, h⟩ := h
    rw [setHK_eq] at h
    have hjl : j < xs.length := (List.getElem?_eq_some_iff.1 hr).1
    have hb : ∃ b off c, (ρ i).base = some ⟨b, off, none⟩ ∧ w.heap[b]? = some (.cells c T (0, 0)) ∧ off + xs.length * k ≤ c.size ∧ RowsAt c off k xs ∧ (∀ r ∈ xs, r.length = k) := by
      obtain ⟨R, φ, hw⟩ := hw
      obtain ⟨hl, hcap, hent⟩ := hw.ent _ he
      simp only at hcap hent
      rcases hent with ⟨hb, hc0, _⟩ | ⟨b, off, c, hb1, hb2, hb3, hb4, hb5⟩
      · exfalso; omega
      · exact ⟨b, off, c, hb1, hb3, by have := Nat.mul_le_mul_right k hcap; omega, hb5, fun r hr => (hl r hr).1⟩
    obtain ⟨b, off, c, hb, hblk, hsize, hrows, hlen⟩ := hb
    have hcells : (x.rf ρ).cells = us.toArray := by rw [hcs ρ, hus ρ]
    have hul : us.length = vs.length := by rw [← hus ρ, rfs_length]
    have hjk : (j + 1) * k ≤ xs.length * k := Nat.mul_le_mul_right k hjl
    rw [Nat.succ_mul] at hjk
    have hrk : r.length = k := hlen r (List.mem_of_getElem? hr)
    refine ⟨w.setRow b (setFrom c.toList (off + (j * k + f)) (x.rf ρ).cells.toList).toArray, _, ?_, ?_, h⟩
    · simp only [SV.rf, map_add_some hb, Instr.storeAt, Instr.sureAddr, Sem.run_bind, Sem.run_pure, Result.andThen_ok]
      exact run_storeVar_at hti hblk (by rw [hcells]; simp [hul, hsz]) (by rw [hcells]; simp; omega) hone
    · refine hw.store he (fun y hy => by simp [Ent.hass] at hy) fun F hF => ?_
      obtain ⟨hl', hcap', hent'⟩ := hF
      rcases hent' with ⟨hb', _, _⟩ | ⟨b', off', c', hb1', hb2', hb3', hb4', hb5'⟩
      · rw [hb] at hb'; cases hb'
      · obtain ⟨rfl, rfl⟩ : b = b' ∧ off = off' := by rw [hb] at hb1'; simpa using hb1'
        obtain rfl : c = c' := by rw [hblk] at hb3'; simpa using hb3'
        refine ⟨⟨rfl, rfl, rfl, by simp [World.setRow], fun x hx hne => (step_setRow w b _).block x hx (fun e => hne ((hb2' x).2 e))⟩, ?_, ?_, .inr ⟨b, off, _, hb1', hb2', setRow_heap w b _ _ T _ hblk, ?_, ?_⟩⟩
        · intro q hq
          rcases List.mem_or_eq_of_mem_set hq with hq | rfl
          · exact hl' q hq
          · refine ⟨by rw [setFrom_length]; exact hrk, fun v hv => ?_⟩
            rcases mem_setFrom hv with hv | hv
            · exact (hl' r (List.mem_of_getElem? hr)).2 v hv
            · exact hone v (by rw [hcells]; simpa using hv)
        · simpa using hcap'
        · simpa [setFrom_length] using hb4'
        · have := rows_store (vs := us) hrows hlen hr hf hsize
          rw [hcells]
          intro i' r' hr' q v hv
          have := this i' r' hr' q v hv
          simpa using this
  | ext o => exact h.elim
end
end Go.SX
