import Derived.Test.YtajbngkcgbehlaaSxK
import Derived.Great.BuildSlice
namespace Go.SX
open Go.RowKit

/-! ### make, slice literals, append -/
def allOne : List Value → Bool
  | [] => true
  | v :: r => bif v.oneCell' then allOne r else false
theorem allOne_spec {l : List Value} (h : allOne l = true) : ∀ v ∈ l, v.oneCell' = true := by
  induction l with
  | nil => simp
  | cons a r ih =>
    unfold allOne at h
    cases ha : a.oneCell' with
    | false => simp [ha] at h
    | true =>
      rw [ha, cond_true] at h
      intro v hv
      rcases List.mem_cons.1 hv with rfl | hv
      · exact ha
      · exact ih h v hv

structure makeK (l c : Int) (bytes : Nat) (K : Nat → Prop) : Prop where
  out : ∃ n m : Nat, l = n ∧ c = m ∧ n ≤ m ∧ bytes * m ≤ 281474976710656 ∧ m ≤ 9223372036854775807 ∧ K n
theorem makeK_def {l c : Int} {bytes : Nat} {K : Nat → Prop} : makeK l c bytes K = (∃ n m : Nat, l = n ∧ c = m ∧ n ≤ m ∧ bytes * m ≤ 281474976710656 ∧ m ≤ 9223372036854775807 ∧ K n) := propext ⟨fun h => h.out, fun h => ⟨h⟩⟩
theorem alloc_new (w : World) (o : Obj) : (w.alloc o).heap[w.heap.size]? = some o := by
  show (w.heap.push o)[_]? = _
  simp
def makeE (cx : Cx) (t : TypeId) (x y : SV) (H : Heap) (nx : Nat) (K : SV → Heap → Prop) : Prop :=
  tabK t (fun ti => bif Nat.beq ti.kind 1 then tabK ti.elem (fun te => bif Nat.beq te.zero.length te.size && allOne te.zero then
    (match x, y with
     | .c (.int _ l), .c (.int _ c) => makeK l c te.bytes fun n => K (.os nx n) ((nx, .rows (List.replicate n te.zero) te.size ti.elem) :: H)
     | _, _ => False) else False) cx.tab else False) cx.tab

theorem rowsAt_made (z : Array Value) (n m : Nat) (h : n ≤ m) : RowsAt (madeCells z (m * z.size)) 0 z.size (List.replicate n z.toList) := by
  intro i r hi j v hj
  rw [List.getElem?_replicate] at hi
  split at hi
  · rename_i hin
    obtain rfl : z.toList = r := by simpa using hi
    have hjz : j < z.size := by simpa using (List.getElem?_eq_some_iff.1 hj).1
    have hlt : i * z.size + j < m * z.size := by
      have : (i + 1) * z.size ≤ m * z.size := Nat.mul_le_mul_right _ (by omega)
      rw [Nat.succ_mul] at this; omega
    have e : (i * z.size + j) % z.size = j := by rw [Nat.add_comm, Nat.add_mul_mod_self_right]; exact Nat.mod_eq_of_lt hjz
    unfold madeCells
    rw [Nat.zero_add, Array.getElem?_map, Array.getElem?_range, if_pos hlt]
    simp only [Option.map_some, e]
    rw [Array.getElem?_toList] at hj
    rw [getElem!_pos z j hjz, ← hj, Array.getElem?_eq_getElem hjz]
  · cases hi

section
variable {cx : Cx} (hok : ∀ p ∈ cx.tab, mkTI cx.P p.1 = some p.2)

include hok in
theorem makeE_sound {t : TypeId} {x y : SV} {ρ : Nat → Loc} {nx : Nat} {H : Heap} {S : Asn} {K : SV → Heap → Prop} {w : World} (h : makeE cx t x y H nx K) (hw : Abs cx.B ρ nx H S w) :
    ∃ v ρ' H' w', (Instr.makeSlice t (x.rf ρ) (y.rf ρ)).run cx.P w = .ok (v.rf ρ') w' ∧ (∀ i, i < nx → ρ' i = ρ i) ∧ v.lt (nx + 1) ∧ Abs cx.B ρ' (nx + 1) H' S w' ∧ K v H' := by
  unfold makeE at h
  obtain ⟨ti, hti, h⟩ := tabK_spec hok h
  cases hk : Nat.beq ti.kind 1 with
  | false => rw [hk] at h; exact h.elim
  | true =>
  rw [hk, cond_true] at h
  obtain ⟨i, d, z, hi0, hd, hz0, rfl⟩ := mkTI_spec hti
  have hk' := Nat.eq_of_beq_eq_true hk
  cases d <;> simp [kindOf] at hk'
  rename_i e
  obtain ⟨te, hte, h⟩ := tabK_spec hok h
  obtain ⟨ie, de, ze, hie, hde, hze, rfl⟩ := mkTI_spec hte
  simp only [elemOf'] at hie h
  cases hb : (Nat.beq ze.cells.toList.length ie.size && allOne ze.cells.toList) with
  | false => rw [hb] at h; exact h.elim
  | true =>
  rw [hb, cond_true] at h
  simp only [Bool.and_eq_true] at hb
  have hsz : ze.cells.size = ie.size := by simpa using Nat.eq_of_beq_eq_true hb.1
  match x, y, h with
  | .c (.int kl l), .c (.int kc c), h =>
    dsimp only at h
    rw [makeK_def] at h
    obtain ⟨n, m, rfl, rfl, hnm, hby, h63, hK⟩ := h
    have hrun := run_make (P := cx.P) w t e ie ze hd hie hze kl kc (n : Int) (m : Int) (by omega) (by omega) (by rw [← Int.natCast_mul]; exact Int.ofNat_le.2 hby) (by omega)
    refine ⟨.os nx n, upd ρ nx ⟨some ⟨w.heap.size, 0, none⟩, m⟩, _, w.alloc (.cells (madeCells ze.cells ((m : Int).toNat * ie.size)) e), ?_, fun i hi => upd_lt hi, SV.lt_os (by omega), ?_, hK⟩
    rotate_left
    · refine hw.alloc (o := .cells (madeCells ze.cells ((m : Int).toNat * ie.size)) e) (fun y hy => by simp [Ent.hass] at hy) ⟨fun r hr => ?_, by simpa using hnm, .inr ⟨w.heap.size, 0, _, rfl, fun _ => Iff.rfl, alloc_new _ _, ?_, ?_⟩⟩
      · have := List.eq_of_mem_replicate hr
        subst this
        exact ⟨by simpa using hsz, allOne_spec hb.2⟩
      · rw [size_madeCells]; simp
      · have := rowsAt_made ze.cells n m hnm
        rw [hsz] at this
        intro i r hi j v hj
        have := this i r hi j v hj
        simpa using this
    · simp only [SV.rf, upd_same]
      simpa using hrun

def repL {α : Type} (l : List α) : Nat → List α
  | 0 => []
  | n + 1 => l ++ repL l n
def allC : List SV → Option (List Value)
  | [] => some []
  | .c v :: r => (match allC r with | some l => some (v :: l) | none => none)
  | _ => none
theorem allC_spec : ∀ {l : List SV} {vs : List Value}, allC l = some vs → ∀ ρ, SV.rfs ρ l = vs
  | [], vs, h, ρ => by simp [allC] at h; subst h; rfl
  | .c v :: r, vs, h, ρ => by
    simp only [allC] at h
    split at h
    · rename_i l hl
      have := allC_spec hl ρ
      simp at h; subst h
      simp [SV.rfs, SV.rf, this]
    · cases h
def chunk (k : Nat) : Nat → List Value → List (List Value)
  | 0, _ => []
  | n + 1, l => l.take k :: chunk k n (l.drop k)
theorem chunk_flatten {k : Nat} : ∀ {n : Nat} {l : List Value}, l.length = n * k → (chunk k n l).flatten = l ∧ (∀ r ∈ chunk k n l, r.length = k) ∧ (chunk k n l).length = n
  | 0, l, h => by simp at h; subst h; simp [chunk]
  | n + 1, l, h => by
    rw [Nat.succ_mul] at h
    obtain ⟨h1, h2, h3⟩ := chunk_flatten (k := k) (n := n) (l := l.drop k) (by simp; omega)
    refine ⟨by simp [chunk, h1], ?_, by simp [chunk, h3]⟩
    intro r hr
    rcases List.mem_cons.1 hr with rfl | hr
    · simp; omega
    · exact h2 r hr
theorem mem_chunk {k : Nat} {v : Value} {r : List Value} : ∀ {n : Nat} {l : List Value}, r ∈ chunk k n l → v ∈ r → v ∈ l
  | 0, l, h, _ => by simp [chunk] at h
  | n + 1, l, h, hv => by
    rcases List.mem_cons.1 h with rfl | h
    · exact List.mem_of_mem_take hv
    · exact List.mem_of_mem_drop (mem_chunk h hv)
/-- rows of one cell -/
def ones (l : List Value) : List (List Value) := l.map fun v => [v]
def rowsOf (k n : Nat) (l : List Value) : List (List Value) := bif Nat.beq k 1 then ones l else chunk k n l
theorem rowsOf_eq {k n : Nat} {l : List Value} (h : l.length = n * k) : rowsOf k n l = chunk k n l := by
  unfold rowsOf
  cases hb : Nat.beq k 1 with
  | false => rfl
  | true =>
    obtain rfl := Nat.eq_of_beq_eq_true hb
    simp only [cond_true, ones]
    have : ∀ (n : Nat) (l : List Value), l.length = n → (l.map fun v => [v]) = chunk 1 n l := by
      intro n
      induction n with
      | zero => intro l hl; simp at hl; subst hl; rfl
      | succ n ih =>
        intro l hl
        match l, hl with
        | a :: r, hl => simp [chunk, ih r (by simpa using hl)]
    exact this n l (by simpa using h)

def buildSliceE (cx : Cx) (t : TypeId) (len : Nat) (ps : List (Nat × SV)) (H : Heap) (nx : Nat) (K : SV → Heap → Prop) : Prop :=
  tabK t (fun ti => bif Nat.beq ti.kind 1 then tabK ti.elem (fun te => bif (Nat.beq te.zero.length te.size && !Nat.beq te.size 0) && Nat.ble (len * te.size) 16777216 then
    fillRowK (fun l => bif oneVs l then (match allC l with
      | some vs => K (.os nx len) ((nx, .rows (rowsOf te.size len vs) te.size ti.elem) :: H)
      | none => K (.os nx len) ((nx, .box l ti.elem) :: H)) else False) te.size (cs (repL te.zero len)) ps else False) cx.tab else False) cx.tab

theorem repL_length {α : Type} (l : List α) : ∀ n, (repL l n).length = n * l.length
  | 0 => by simp [repL]
  | n + 1 => by simp [repL, repL_length l n, Nat.succ_mul]; omega
theorem repL_get {α : Type} (l : List α) : ∀ (n p : Nat), p < n * l.length → (repL l n)[p]? = l[p % l.length]?
  | 0, p, h => by simp at h
  | n + 1, p, h => by
    rw [Nat.succ_mul] at h
    unfold repL
    by_cases hp : p < l.length
    · rw [List.getElem?_append_left hp, Nat.mod_eq_of_lt hp]
    · rw [List.getElem?_append_right (by omega), repL_get l n _ (by omega), ← Nat.mod_eq_sub_mod (by omega)]
theorem madeCells_repL (z : Array Value) (n : Nat) : madeCells z (n * z.size) = (repL z.toList n).toArray := by
  apply Array.ext'
  apply List.ext_getElem?
  intro p
  by_cases hp : p < n * z.size
  · have hz0 : 0 < z.size := by
      rcases Nat.eq_zero_or_pos z.size with h | h
      · rw [h] at hp; omega
      · exact h
    have hz : p % z.size < z.size := Nat.mod_lt _ hz0
    show _ = (repL z.toList n)[p]?
    rw [repL_get _ _ _ (by simpa using hp)]
    simp [madeCells, hp, hz]
  · show _ = (repL z.toList n)[p]?
    rw [List.getElem?_eq_none (by simp [madeCells]; omega), List.getElem?_eq_none (by simp [repL_length]; omega)]

theorem fill_size {place : Nat → Option (Nat × Nat)} : ∀ {ps : List (Nat × Value)} {c c' : Array Value}, Instr.fill place c ps = some c' → c'.size = c.size
  | [], c, c', h => by simp [Instr.fill] at h; rw [h]
  | (i, v) :: r, c, c', h => by
    simp only [Instr.fill] at h
    split at h
    · cases h
    · split at h
      · cases h
      · rw [fill_size h]
        rename_i off size _ _
        have : ∀ (vs : List (Value × Nat)) (a : Array Value), (vs.foldl (fun cs x => cs.setIfInBounds (off + x.2) x.1) a).size = a.size := by
          intro vs
          induction vs with
          | nil => intro a; rfl
          | cons x r ih => intro a; simp [ih]
        rw [← Array.foldl_toList]
        exact this _ _

include hok in
theorem buildSliceE_sound {t : TypeId} {len : Nat} {ps : List (Nat × SV)} {ρ : Nat → Loc} {nx : Nat} {H : Heap} {S : Asn} {K : SV → Heap → Prop} {w : World} (hp : ∀ p ∈ ps, p.2.lt nx) (h : buildSliceE cx t len ps H nx K) (hw : Abs cx.B ρ nx H S w) :
    ∃ v ρ' H' w', (Instr.buildSlice t len (ps.map fun p => (p.1, p.2.rf ρ)).toArray).run cx.P w = .ok (v.rf ρ') w' ∧ (∀ i, i < nx → ρ' i = ρ i) ∧ v.lt (nx + 1) ∧ Abs cx.B ρ' (nx + 1) H' S w' ∧ K v H' := by
  unfold buildSliceE at h
  obtain ⟨ti, hti, h⟩ := tabK_spec hok h
  cases hk : Nat.beq ti.kind 1 with
  | false => rw [hk] at h; exact h.elim
  | true =>
  rw [hk, cond_true] at h
  obtain ⟨i, d, z, hi0, hd, hz0, rfl⟩ := mkTI_spec hti
  have hk' := Nat.eq_of_beq_eq_true hk
  cases d <;> simp [kindOf] at hk'
  rename_i e
  obtain ⟨te, hte, h⟩ := tabK_spec hok h
  obtain ⟨ie, de, ze, hie, hde, hze, rfl⟩ := mkTI_spec hte
  simp only [elemOf'] at hie h
  cases hb : ((Nat.beq ze.cells.toList.length ie.size && !Nat.beq ie.size 0) && Nat.ble (len * ie.size) 16777216) with
  | false => rw [hb] at h; exact h.elim
  | true =>
  rw [hb, cond_true] at h
  simp only [Bool.and_eq_true, Bool.not_eq_true'] at hb
  have hsz : ze.cells.size = ie.size := by simpa using Nat.eq_of_beq_eq_true hb.1.1
  have hnz : ie.size ≠ 0 := Nat.ne_of_beq_eq_false hb.1.2
  have hle : len * ie.size ≤ 16777216 := Nat.le_of_ble_eq_true hb.2
  obtain ⟨l, h, hl, hfill⟩ := fillRowK_spec (lts_cs nx _) hp h
  have hfill := hfill ρ
  rw [rfs_cs] at hfill
  cases hone : oneVs l with
  | false => rw [hone] at h; exact h.elim
  | true =>
  rw [hone, cond_true] at h
  have hones : ∀ v ∈ SV.rfs ρ l, v.oneCell' = true := by
    intro v hv
    simp only [SV.rfs_eq, List.mem_map] at hv
    obtain ⟨u, hu, rfl⟩ := hv
    exact oneV_spec (oneVs_spec hone u hu) ρ
  have hlen : (SV.rfs ρ l).length = len * ie.size := by
    have := fill_size hfill
    simp [repL_length, hsz] at this
    exact this
  have hrun : (Instr.buildSlice t len (ps.map fun p => (p.1, p.2.rf ρ)).toArray).run cx.P w = .ok (.slice (some ⟨w.heap.size, 0, none⟩) len len) (w.alloc (.cells (SV.rfs ρ l).toArray e)) := by
    by_cases h0 : len * ie.size = 0
    · have hl0 : SV.rfs ρ l = [] := by rw [h0] at hlen; simpa using hlen
      have hr0 : repL ze.cells.toList len = [] := by
        apply List.eq_nil_of_length_eq_zero; rw [repL_length]; simpa [hsz] using h0
      rw [hl0, hr0] at hfill
      have hfill' : Instr.fill (fun i => some (i * ie.size, ie.size)) #[] (ps.map fun p => (p.1, p.2.rf ρ)) = some #[] := hfill
      have hr : (Array.map (fun x => (default : Value)) (Array.range 0)) = #[] := by simp
      simp [Instr.buildSlice, run_underlying hd, run_sizeOf_of hie, h0, newRow, hl0]
      simp only [hr, hfill']
      simp
    · have hfill' : Instr.fill (fun i => some (i * ie.size, ie.size)) (madeCells ze.cells (len * ie.size)) (ps.map fun p => (p.1, p.2.rf ρ)) = some (SV.rfs ρ l).toArray := by
        rw [← hsz, madeCells_repL, hsz]; exact hfill
      have hbig : ¬ len * ie.size > 2 ^ 24 := by omega
      exact run_buildSlice w t e len _ _ ie ze hd hie hze hbig h0 (by simpa only [madeCells] using hfill')
  refine ⟨.os nx len, upd ρ nx ⟨some ⟨w.heap.size, 0, none⟩, len⟩, ?_⟩
  split at h
  · rename_i vs hvs
    have hvs' := allC_spec hvs ρ
    rw [hvs'] at hlen hrun hones
    obtain ⟨g1, g2, g3⟩ := chunk_flatten hlen
    rw [rowsOf_eq hlen] at h
    refine ⟨_, w.alloc (.cells vs.toArray e), by simpa only [SV.rf, upd_same] using hrun, fun i hi => upd_lt hi, SV.lt_os (by omega), ?_, h⟩
    refine hw.alloc (fun y hy => by simp [Ent.hass] at hy) ⟨fun r hr => ⟨g2 r hr, fun v hv => hones v (mem_chunk hr hv)⟩, by rw [g3]; exact Nat.le_refl _, .inr ⟨w.heap.size, 0, _, rfl, fun _ => Iff.rfl, alloc_new _ _, by simp [hlen], ?_⟩⟩
    have := rowsAt_flatten g2 []
    rw [g1, List.append_nil] at this
    exact this
  · refine ⟨_, w.alloc (.cells (SV.rfs ρ l).toArray e), by simpa only [SV.rf, upd_same] using hrun, fun i hi => upd_lt hi, SV.lt_os (by omega), ?_, h⟩
    exact hw.alloc (fun y hy => hl y hy) ⟨w.heap.size, rfl, fun _ => Iff.rfl, alloc_new _ _⟩
end
end Go.SX
