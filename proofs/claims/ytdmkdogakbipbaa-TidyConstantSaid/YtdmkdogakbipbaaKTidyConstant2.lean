import Derived.ProofKit
import Derived.OpenShut
import Derived.Deep.Slices
import Derived.LoopN
import Derived.Laws.BytesString
import Derived.Laws.Cells
import Derived.Test.YtdmkdogakbipbaaKTidyConstant1
/- SxT -/
namespace Go.SX
open Go.RowKit

theorem rowsA_in {base : Option Addr} {k : Nat} {xs : List (List Value)} {R : Nat → Prop} {w : World} (h : (rowsA base k xs).holds R w) : RowsI w base k xs := by
  rcases h.2 with h | ⟨b, off, h1, _, h3⟩
  · exact .inl h
  · exact .inr ⟨_, h1, fun i r hi j v hj => by rw [add_none]; exact h3 i r hi j v hj⟩
/-- the same with the slice's value -/
def rowsV (v : Value) (k : Nat) (xs : List (List Value)) : Asn where
  holds R w := ∃ base cap, v = .slice base xs.length cap ∧ (rowsA base k xs).holds R w
  stable := by
    rintro R R' w w' hR hw ⟨base, cap, h1, h2⟩
    exact ⟨base, cap, h1, (rowsA base k xs).stable hR hw h2⟩

mutual
def SV.fz (i : Nat) (l : Loc) : SV → SV
  | .c v => .c v
  | .lp j a k f => bif Nat.beq j i then .c (.pointer (l.base.map (·.add (a * k + f)))) else .lp j a k f
  | .os j n => bif Nat.beq j i then .c (.slice l.base n l.cap) else .os j n
  | .agg xs => .agg (SV.fzs i l xs)
  | .tup xs => .tup (SV.fzs i l xs)
  | .fn f a b => .fn f (SV.fzs i l a) (SV.fzs i l b)
  | .ifc t v => .ifc t (v.fz i l)
def SV.fzs (i : Nat) (l : Loc) : List SV → List SV
  | [] => []
  | v :: r => v.fz i l :: SV.fzs i l r
end
mutual
theorem SV.rf_fz (i : Nat) (ρ : Nat → Loc) : ∀ v : SV, (v.fz i (ρ i)).rf ρ = v.rf ρ
  | .c _ => rfl
  | .lp j a k f => by
    simp only [SV.fz]
    cases h : Nat.beq j i with
    | true => have := Nat.eq_of_beq_eq_true h; subst this; rfl
    | false => rfl
  | .os j n => by
    simp only [SV.fz]
    cases h : Nat.beq j i with
    | true => have := Nat.eq_of_beq_eq_true h; subst this; rfl
    | false => rfl
  | .agg l => by simp only [SV.fz, SV.rf]; rw [SV.rfs_fz i ρ l]
  | .tup l => by simp only [SV.fz, SV.rf]; rw [SV.rfs_fz i ρ l]
  | .fn f a b => by simp only [SV.fz, SV.rf]; rw [SV.rfs_fz i ρ a, SV.rfs_fz i ρ b]
  | .ifc t v => by simp only [SV.fz, SV.rf]; rw [SV.rf_fz i ρ v]
theorem SV.rfs_fz (i : Nat) (ρ : Nat → Loc) : ∀ l : List SV, SV.rfs ρ (SV.fzs i (ρ i) l) = SV.rfs ρ l
  | [] => rfl
  | v :: r => by simp only [SV.fzs, SV.rfs]; rw [SV.rf_fz i ρ v, SV.rfs_fz i ρ r]
end
mutual
theorem SV.has_fz {i x : Nat} {l : Loc} : ∀ {v : SV}, (v.fz i l).has x = true → v.has x = true
  | .c _, h => h
  | .lp j a k f, h => by
    simp only [SV.fz] at h
    cases hb : Nat.beq j i with
    | true => rw [hb] at h; simp [SV.has] at h
    | false => rw [hb] at h; exact h
  | .os j n, h => by
    simp only [SV.fz] at h
    cases hb : Nat.beq j i with
    | true => rw [hb] at h; simp [SV.has] at h
    | false => rw [hb] at h; exact h
  | .agg l, h => by simp only [SV.fz, SV.has] at h ⊢; exact SV.hass_fz h
  | .tup l, h => by simp only [SV.fz, SV.has] at h ⊢; exact SV.hass_fz h
  | .fn f a b, h => by
    simp only [SV.fz, SV.has, Bool.or_eq_true] at h ⊢
    exact h.imp SV.hass_fz SV.hass_fz
  | .ifc t v, h => by simp only [SV.fz, SV.has] at h ⊢; exact SV.has_fz h
theorem SV.hass_fz {i x : Nat} {l : Loc} : ∀ {xs : List SV}, SV.hass x (SV.fzs i l xs) = true → SV.hass x xs = true
  | [], h => h
  | v :: r, h => by
    simp only [SV.fzs, SV.hass, Bool.or_eq_true] at h ⊢
    exact h.imp SV.has_fz SV.hass_fz
end
def Env.fz (i : Nat) (l : Loc) : Env → Env
  | [] => []
  | (t, v) :: r => (t, v.fz i l) :: Env.fz i l r
theorem Env.get_fz {i : Nat} {l : Loc} : ∀ {env : Env} {t : Nat} {v : SV}, (env.fz i l).get t = some v → ∃ u, env.get t = some u ∧ v = u.fz i l
  | [], t, v, h => by cases h
  | (j, u) :: r, t, v, h => by
    simp only [Env.fz, Env.get_cons] at h ⊢
    by_cases hj : j = t
    · rw [if_pos hj] at h ⊢; exact ⟨u, rfl, by simpa using h.symm⟩
    · rw [if_neg hj] at h ⊢; exact Env.get_fz h
def Ent.fz (i : Nat) (l : Loc) : Ent → Ent
  | .box cs T => .box (SV.fzs i l cs) T
  | e => e
def Heap.fz (i : Nat) (l : Loc) : Heap → Heap
  | [] => []
  | (j, e) :: r => (j, e.fz i l) :: Heap.fz i l r
theorem Heap.fz_eq (i : Nat) (l : Loc) (H : Heap) : Heap.fz i l H = H.map fun p => (p.1, p.2.fz i l) := by
  induction H with
  | nil => rfl
  | cons p r ih => obtain ⟨j, e⟩ := p; simp [Heap.fz, ih]

/-- One's own rows are written no more: from here on they stay. -/
theorem Wp.freeze {cx : Cx} {c : Code} {env : Env} {H : Heap} {S : Asn} {nx : Nat} {K : Exit → Env → Heap → Asn → Nat → Prop} (i : Nat) {xs : List (List Value)} {k : Nat} {T : TypeId} (he : (i, Ent.rows xs k T) ∈ H)
    (h : ∀ l : Loc, xs.length ≤ l.cap → Wp cx c (env.fz i l) (Heap.fz i l (delH i H)) (S.and (rowsA l.base k xs)) nx K) : Wp cx c env H S nx K := by
  simp only [Wp_def] at *
  intro ρ a w hs hw
  obtain ⟨R, φ, hw⟩ := hw
  have hent := hw.ent _ he
  obtain ⟨hr, hcap, hent'⟩ := hent
  have hdel : ∀ p ∈ delH i H, p.1 ≠ i ∧ ∀ b, φ p.1 b → ¬ φ i b := by
    have : ∀ {H : Heap}, H.Pairwise (fun p q => p.1 ≠ q.1 ∧ ∀ b, φ p.1 b → ¬ φ q.1 b) → ∀ {e : Ent}, (i, e) ∈ H → ∀ p ∈ delH i H, p.1 ≠ i ∧ ∀ b, φ p.1 b → ¬ φ i b := by
      intro H hsep
      induction H with
      | nil => intro e he; cases he
      | cons q r ih =>
        obtain ⟨hq, hr⟩ := List.pairwise_cons.1 hsep
        intro e he p hp
        obtain ⟨qi, qe⟩ := q
        unfold delH at hp
        cases hbq : Nat.beq qi i with
        | true =>
          rw [hbq, cond_true] at hp
          have := Nat.eq_of_beq_eq_true hbq
          subst this
          exact ⟨(hq p hp).1.symm, fun b hb hb' => (hq p hp).2 b hb' hb⟩
        | false =>
          rw [hbq, cond_false] at hp
          have hne := Nat.ne_of_beq_eq_false hbq
          have her : (i, e) ∈ r := (List.mem_cons.1 he).resolve_left (fun g => hne (by simpa using congrArg Prod.fst g.symm))
          rcases List.mem_cons.1 hp with g | g
          · subst g; exact ⟨hne, (hq _ her).2⟩
          · exact ih hr her p g
    exact this hw.sep he
  refine h (ρ i) hcap ρ a w ⟨hs.defers, hs.size, fun t v hv ht => ?_, fun t v hv => ?_⟩ ?_
  · obtain ⟨u, hu, rfl⟩ := Env.get_fz hv
    rw [hs.val t u hu ht, SV.rf_fz]
  · obtain ⟨u, hu, rfl⟩ := Env.get_fz hv
    exact fun x hx => hs.lt t u hu x (SV.has_fz hx)
  · have hsub := hw.drop (delH_sublist i H)
    refine ⟨fun b => R b ∨ φ i b, φ, hw.os, hw.tape, hw.output, hw.size, hw.pin, fun b hb => hb.elim (hw.ro b) (fun hb => Ent.size (hw.ent _ he) hb), ⟨S.stable (fun _ h => .inl h) (fun _ _ => rfl) hw.asn, ?_⟩, ?_, ?_, ?_, ?_⟩
    · refine ⟨hr, ?_⟩
      rcases hent' with ⟨h1, h2, _⟩ | ⟨b, off, c', h1, h2, h3, h4, h5⟩
      · simp only at hcap h2; exact .inl (List.eq_nil_of_length_eq_zero (by omega))
      · exact .inr ⟨b, off, h1, .inr ((h2 b).2 rfl), fun m r hm j v hj => by have := h5 m r hm j v hj; rw [← Nat.add_assoc]; simpa [World.cell?, h3] using this⟩
    · rw [Heap.fz_eq]
      intro p hp
      obtain ⟨q, hq, rfl⟩ := List.mem_map.1 hp
      refine ⟨(hsub.key q hq).1, fun x hx => ?_⟩
      cases hqe : q.2 with
      | box cs T =>
        rw [hqe] at hx
        have := (hsub.key q hq).2
        rw [hqe] at this
        exact this x (SV.hass_fz hx)
      | rows xs k T => rw [hqe] at hx; simp [Ent.fz, Ent.hass] at hx
      | ext o => rw [hqe] at hx; simp [Ent.fz, Ent.hass] at hx
    · rw [Heap.fz_eq]
      intro p hp
      obtain ⟨q, hq, rfl⟩ := List.mem_map.1 hp
      have := hsub.ent q hq
      dsimp only
      cases hqe : q.2 with
      | box cs T =>
        rw [hqe] at this
        obtain ⟨b, h1, h2, h3⟩ := this
        exact ⟨b, h1, h2, by rw [SV.rfs_fz]; exact h3⟩
      | rows xs k T => rw [hqe] at this; exact this
      | ext o => rw [hqe] at this; exact this
    · rw [Heap.fz_eq]
      intro p hp b hb hb'
      obtain ⟨q, hq, rfl⟩ := List.mem_map.1 hp
      exact hb'.elim (hsub.apart q hq b hb) ((hdel q hq).2 b hb)
    · rw [Heap.fz_eq]
      exact List.pairwise_map.2 hsub.sep

/-- new rows: in no block that was there -/
def NewRows (w w' : World) (v : Value) (k : Nat) (T : TypeId) (xs : List (List Value)) : Prop :=
  ∃ l : Loc, v = .slice l.base xs.length l.cap ∧ ∃ F : Nat → Prop, (∀ b, F b → w.heap.size ≤ b) ∧ (Ent.rows xs k T).holds (fun _ => l) l F w'

theorem new_of_abs {B : Base} {ρ : Nat → Loc} {nx : Nat} {H : Heap} {S : Asn} {w : World} {i : Nat} {xs : List (List Value)} {k : Nat} {T : TypeId} (h : Abs B ρ nx H S w) (hS : ∀ R w', S.holds R w' → (baseA B.w0).holds R w') (he : (i, Ent.rows xs k T) ∈ H) :
    NewRows B.w0 w ((SV.os i xs.length).rf ρ) k T xs := by
  obtain ⟨R, φ, h⟩ := h
  have hb := hS R w h.asn
  refine ⟨ρ i, rfl, φ i, fun b hbb => ?_, h.ent _ he⟩
  rcases Nat.lt_or_ge b B.w0.heap.size with hl | hl
  · exact absurd (hb b hl).1 (h.apart _ he b hbb)
  · exact hl

theorem call_new {cx : Cx} {f : FuncId} {args : List SV} {H : Heap} {S : Asn} {nx : Nat} {K : SV → Heap → Asn → Nat → Prop} (hf : ∀ as w, (callFunc f as).run cx.P w = .ok (.enter f as) w) (k : Nat) (T : TypeId) {α : Type} (xs : α → List (List Value)) (p : α → Prop)
    (hc : ∀ ρ w, Abs cx.B ρ nx H S w → Calls cx.P f (SV.rfs ρ args).toArray w (fun e w' => ∃ x, p x ∧ ∃ v, e = .returned v ∧ Ext w w' ∧ NewRows w w' v k T (xs x)))
    (h : ∀ x, p x → K (.os nx (xs x).length) ((nx, .rows (xs x) k T) :: H) S (nx + 1)) : callK cx f args H S nx K := by
  rw [callK_def]
  refine ⟨hf, fun ρ w hw => (hc ρ w hw).mono ?_⟩
  rintro e w' ⟨x, hp, v, rfl, he, l, rfl, F, hF, hent⟩
  have hw' := hw.ext he
  obtain ⟨R, φ, hwR⟩ := hw
  have hwR' := hwR.step (Step.of_ext he) (fun _ _ h => h) (fun _ _ _ _ h => h)
  refine ⟨.os nx (xs x).length, upd ρ nx l, _, S, nx + 1, by simp [SV.rf, upd_same], fun i hi => upd_lt hi, Nat.le_succ _, SV.lt_os (by omega), ?_, h x hp⟩
  refine ⟨R, _, hwR'.add (F := F) (fun y hy => by simp [Ent.hass] at hy) hent (fun b hb hR => ?_) (fun p hp b hb hb' => ?_)⟩
  · have := hwR.ro b hR; have := hF b hb; omega
  · have := Ent.size (hwR.ent p hp) hb; have := hF b hb'; omega

end Go.SX

/- SxU -/
namespace Go.SX
open Go.RowKit

def ints (xs : List Int) : List (List Value) := xs.map fun x => [.int .i64 x]
theorem ints_length (xs : List Int) : (ints xs).length = xs.length := by simp [ints]
theorem ints_get {xs : List Int} {k : Nat} (h : k < xs.length) : (ints xs)[k]? = some [.int .i64 xs[k]] := by simp [ints, h]
theorem ints_row {xs : List Int} : ∀ r ∈ ints xs, r.length = 1 ∧ ∀ v ∈ r, v.oneCell' = true := by
  intro r hr
  simp only [ints, List.mem_map] at hr
  obtain ⟨x, _, rfl⟩ := hr
  exact ⟨rfl, fun v hv => by simp at hv; subst hv; rfl⟩

theorem cell_block {w : World} {a : Addr} {v : Value} (h : w.cell? a = some v) : a.block < w.heap.size := by
  unfold World.cell? at h
  split at h
  · rename_i c _ _ hb; exact lt_size_of_some hb
  · cases h
theorem cell_same {w w' : World} {a : Addr} (h : w'.heap[a.block]? = w.heap[a.block]?) : w'.cell? a = w.cell? a := by
  unfold World.cell?; rw [h]
theorem rows_base {w w' : World} {R : Nat → Prop} {base : Option Addr} {k : Nat} {xs : List (List Value)} (hb : (baseA w).holds R w') (h : RowsI w base k xs) : RowsI w' base k xs := by
  rcases h with h | ⟨a, ha, h⟩
  · exact .inl h
  · refine .inr ⟨a, ha, fun i r hi j v hj => ?_⟩
    have := h i r hi j v hj
    rw [cell_same (hb _ (cell_block this)).2]; exact this
end Go.SX

/- SxV -/
namespace Go.SX
open Go.RowKit

theorem call_bool {cx : Cx} {f : FuncId} {args : List SV} {H : Heap} {S : Asn} {nx : Nat} {K : SV → Heap → Asn → Nat → Prop} (hf : ∀ as w, (callFunc f as).run cx.P w = .ok (.enter f as) w) (b : Bool)
    (hc : ∀ ρ w, Abs cx.B ρ nx H S w → Calls cx.P f (SV.rfs ρ args).toArray w (fun e w' => e = .returned (.bool b) ∧ Ext w w')) (h1 : b = true → K (.c (.bool true)) H S nx) (h2 : b = false → K (.c (.bool false)) H S nx) : callK cx f args H S nx K := by
  cases b with
  | true => exact call_pure hf _ hc (h1 rfl)
  | false => exact call_pure hf _ hc (h2 rfl)
theorem callQ_bool {cx : Cx} {f : FuncId} {args : List SV} {H : Heap} {S : Asn} {nx : Nat} {K : SV → Prop} (hf : ∀ as w, (callFunc f as).run cx.P w = .ok (.enter f as) w) (b : Bool)
    (hc : ∀ ρ w, Abs cx.B ρ nx H S w → Calls cx.P f (SV.rfs ρ args).toArray w (fun e w' => e = .returned (.bool b) ∧ Ext w w')) (h1 : b = true → K (.c (.bool true))) (h2 : b = false → K (.c (.bool false))) : callQ cx f args H S nx K := by
  cases b with
  | true => exact callQ_of hf _ hc (h1 rfl)
  | false => exact callQ_of hf _ hc (h2 rfl)

/-- a slice held against nil -/
theorem slice_nil_eql {P : Program} {t : TypeId} {ti : TI} (h : mkTI P t = some ti) (hk : ti.kind = 1) {ox oy : Operand} {base : Option Addr} {len cap : Nat} {K : SV → Prop} (hK : K (.c (.bool base.isNone))) :
    pureK P (do eqGuard .eql t ox oy (.slice base len cap) (.slice none 0 0); binOp .eql t (.slice base len cap) (.slice none 0 0)) K := by
  rw [pureK_def]
  obtain ⟨i, d, z, hi, hd, hz, rfl⟩ := mkTI_spec h
  simp only at hk
  have hs : ∃ e, d = .slice e := by cases d <;> first | exact ⟨_, rfl⟩ | (simp [kindOf] at hk)
  obtain ⟨e, rfl⟩ := hs
  refine ⟨.bool base.isNone, fun w => ?_, hK⟩
  have h1 : (eqGuard .eql t ox oy (.slice base len cap) (.slice none 0 0)).run P w = .ok () w := by unfold eqGuard; simp
  have h2 : (Op.equal t (.slice base len cap) (.slice none 0 0)).run P w = .ok base.isNone w := by
    unfold Op.equal
    rw [show Op.maxDepth = Nat.succ 9999 from rfl]
    unfold Op.equalIn
    simp only [Sem.run_bind, run_underlying hd, Result.andThen_ok]
    cases base <;> rfl
  simp only [Sem.run_bind, h1, Result.andThen_ok, binOp, h2, Sem.run_pure]

theorem newRows_data {w w' : World} {v : Value} {k : Nat} {T : TypeId} {xs : List (List Value)} (h : NewRows w w' v k T xs) : (rowsV v k xs).holds (fun b => w.heap.size ≤ b ∧ b < w'.heap.size) w' := by
  obtain ⟨l, rfl, F, hF, hr, hcap, hent⟩ := h
  refine ⟨l.base, l.cap, rfl, hr, ?_⟩
  rcases hent with ⟨h1, h2, _⟩ | ⟨b, off, c, h1, h2, h3, h4, h5⟩
  · exact .inl (List.eq_nil_of_length_eq_zero (by omega))
  · refine .inr ⟨b, off, h1, ⟨hF b ((h2 b).2 rfl), lt_size_of_some h3⟩, fun i r hi j v hj => ?_⟩
    have := h5 i r hi j v hj
    rw [← Nat.add_assoc]
    simpa [World.cell?, h3] using this
theorem Asn.mono (S : Asn) {R R' : Nat → Prop} {w : World} (h : S.holds R w) (hR : ∀ b, R b → R' b) : S.holds R' w := S.stable hR (fun _ _ => rfl) h

/-- rows at hand: one's own slice as a caller sees it -/
theorem rows_of_abs {B : Base} {ρ : Nat → Loc} {nx : Nat} {H : Heap} {S : Asn} {w : World} {i : Nat} {xs : List (List Value)} {k : Nat} {T : TypeId} (h : Abs B ρ nx H S w) (he : (i, Ent.rows xs k T) ∈ H) : RowsI w (ρ i).base k xs := by
  obtain ⟨R, φ, h⟩ := h
  obtain ⟨hr, hcap, hent⟩ := h.ent _ he
  simp only at hcap hent
  rcases hent with ⟨h1, h2, _⟩ | ⟨b, off, c, h1, h2, h3, h4, h5⟩
  · exact .inl (List.eq_nil_of_length_eq_zero (by omega))
  · refine .inr ⟨_, h1, fun m r hm j v hj => ?_⟩
    have := h5 m r hm j v hj
    rw [add_none, ← Nat.add_assoc]
    simpa [World.cell?, h3] using this
theorem holds_of_abs {B : Base} {ρ : Nat → Loc} {nx : Nat} {H : Heap} {S : Asn} {w : World} {p : Prop} (h : Abs B ρ nx H S w) (hp : ∀ R, S.holds R w → p) : p := by
  obtain ⟨R, φ, h⟩ := h; exact hp R h.asn
end Go.SX

/- SxW -/
namespace Go.SX
open Go.RowKit Go.ChangeShapes Go.WideShapes Go.Deep

section
variable {P : Program} {w : World}

/-- whatever is read of this type has cells of this form -/
structure Opens (P : Program) (w : World) (t : TypeId) (Q : List Value → Prop) : Prop where
  out : ∀ {H : Type} (enc : TypeId × Value → H) (base : Nat) (sp : Nat → Bool) (held : Bool) (n : Nat) (cs : List Value) (x : DataW H × List MemPlace), DataW.trod enc P w base sp held n t cs = some x → Q cs

theorem Opens.mono {t : TypeId} {Q Q' : List Value → Prop} (h : Opens P w t Q) (hq : ∀ cs, Q cs → Q' cs) : Opens P w t Q' :=
  ⟨fun enc base sp held n cs x hx => hq cs (h.out enc base sp held n cs x hx)⟩

theorem opens_int {t : TypeId} {k : IntKind} (ht : P.underlying t = some (.int k)) : Opens P w t fun cs => ∃ i, (Lit.int k i).wf = true ∧ cs = [.int k i] := by
  constructor
  intro H enc base sp held n cs x h
  obtain ⟨i, h1, _, h2⟩ := DataW.trod_int ht h
  exact ⟨i, h2, h1⟩

def SliceQ (w : World) (k : Nat) (Q : List Value → Prop) (cs : List Value) : Prop :=
  ∃ (base : Option Addr) (cap : Nat) (xs : List (List Value)), cs = [.slice base xs.length cap] ∧ RowsI w base k xs ∧ (∀ r ∈ xs, r.length = k ∧ Q r) ∧ xs.length ≤ cap ∧ cap ≤ maxLen ∧ (base = none → cap = 0)

theorem cells?_get {w : World} {base : Nat} {a : Addr} {n : Nat} {cs : List Value} (h : w.cells? base a n = some cs) : cs.length = n ∧ ∀ j v, cs[j]? = some v → w.cell? (a.add j) = some v := by
  obtain ⟨_, hl, hc⟩ := World.cells?_some h
  refine ⟨hl, fun j v hv => ?_⟩
  have hj : j < n := by rw [← hl]; exact (List.getElem?_eq_some_iff.1 hv).1
  rw [← hv]
  exact hc j hj

theorem opens_slice {t e : TypeId} {k : Nat} {Q : List Value → Prop} (ht : P.underlying t = some (.slice e)) (hc : P.cellsOf e = k) (he : Opens P w e Q) : Opens P w t (SliceQ w k Q) := by
  constructor
  intro H enc base sp held n cs x h
  rcases open_slice ht h with ⟨rfl, _⟩ | ⟨a, len, cap, m, n', D, Pl, rfl, _, hl, hm, hmm, _, hx⟩
  · exact ⟨none, 0, [], rfl, .inl rfl, fun r hr => by simp at hr, Nat.le_refl _, Nat.zero_le _, fun _ => rfl⟩
  · have hlm : len ≤ m := by rw [hmm]; split <;> omega
    obtain ⟨f, hf⟩ := choose_lt (α := List Value) (n := len) (p := fun i r => w.cells? base (a.add (i * k)) k = some r ∧ Q r) (fun i hi => by
      obtain ⟨cs', h1, h2⟩ := hx i (by omega)
      rw [hc] at h1
      exact ⟨cs', h1, he.out enc base sp held n' cs' _ h2⟩)
    refine ⟨some a, cap, (List.range len).map f, by simp, .inr ⟨a, rfl, fun i r hr j v hv => ?_⟩, fun r hr => ?_, by simpa using hl, hm, fun h0 => by cases h0⟩
    · have hi : i < len := by have := (List.getElem?_eq_some_iff.1 hr).1; simpa using this
      rw [List.getElem?_map, List.getElem?_range hi] at hr
      simp only [Option.map_some, Option.some.injEq] at hr
      subst hr
      have := (cells?_get (hf i hi).1).2 j v hv
      rwa [Deep.add_add] at this
    · simp only [List.mem_map, List.mem_range] at hr
      obtain ⟨i, hi, rfl⟩ := hr
      exact ⟨(cells?_get (hf i hi).1).1, (hf i hi).2⟩

theorem list_map_of {α : Type} {f : α → List Value} {p : α → Prop} : ∀ {xs : List (List Value)}, (∀ r ∈ xs, ∃ a, p a ∧ r = f a) → ∃ l : List α, xs = l.map f ∧ ∀ a ∈ l, p a
  | [], _ => ⟨[], rfl, fun _ h => by simp at h⟩
  | r :: xs, h => by
    obtain ⟨a, ha, rfl⟩ := h r (by simp)
    obtain ⟨l, rfl, hl⟩ := list_map_of (xs := xs) fun r hr => h r (by simp [hr])
    exact ⟨a :: l, rfl, fun b hb => by rcases List.mem_cons.1 hb with rfl | hb; exact ha; exact hl b hb⟩

theorem cells_slice {v : Value} {b : Option Addr} {l c : Nat} {t e : TypeId} {r : Reach} {b0 : Nat} (ht : P.underlying t = some (.slice e)) (hv : Value.okWide P w r b0 t v) (h : v.cells.toList = [.slice b l c]) : v = .slice b l c := by
  obtain ⟨a, l', c', rfl⟩ := okWide_slice ht hv
  simpa [Value.cells] using h
end

section
variable {H : Type} {enc : TypeId × Value → H} {P : Program}

theorem trodAll_stays (hl : laidOutB P = true) {W W' : World} (hE : Ext W W') {sp : Nat → Bool} : ∀ (ts : List TypeId) (vs : List Value) (ds : List (DataW H)) (ps : List MemPlace),
    (∀ t ∈ ts, P.readableRec t = true ∧ t < P.types.size) → DataW.TrodAll enc P W 0 (fun _ => true) true ts vs ds ps → (∀ p ∈ ps, p.block < W.heap.size) → (∀ p ∈ ps, sp p.block = true) → DataW.TrodAll enc P W' 0 sp true ts vs ds ps
  | [], [], [], ps, _, h, _, _ => h
  | t :: ts, v :: vs, d :: ds, ps, ht, h, hlt, hs => by
    obtain ⟨p, q, h1, h2, rfl⟩ := h
    refine ⟨p, q, ?_, trodAll_stays hl hE ts vs ds q (fun u hu => ht u (by simp [hu])) h2 (fun x hx => hlt x (by simp [hx])) (fun x hx => hs x (by simp [hx])), rfl⟩
    exact WideElems.Trod_stays hl (ht t (by simp)).1 (ht t (by simp)).2 h1 (fun x hx => hE.same (hlt x (by simp [hx]))) (fun x hx => hs x (by simp [hx]))
  | [], _ :: _, _, _, _, h, _, _ => by simp [DataW.TrodAll] at h
  | [], [], _ :: _, _, _, h, _, _ => by simp [DataW.TrodAll] at h
  | _ :: _, [], _, _, _, h, _, _ => by simp [DataW.TrodAll] at h
  | _ :: _, _ :: _, [], _, _, h, _, _ => by simp [DataW.TrodAll] at h

/-- 'true, and the arguments read as they did' -/
theorem law_post {f : Func} {s : ChangeSpec} {apart fresh handsOn again : Bool} {W W' : World} {args : Array Value} {ds gs : List (DataW H)} {before : List MemPlace} {t : TypeId}
    (hl : laidOutB P = true) (hr : (f.params.toList.all fun t => P.readableRec t && decide (t < P.types.size)) = true) (hvars : s.vars = []) (hres : f.resultTypes = #[t]) (ht : P.underlying t = some .bool)
    (hfn : s.fn H ds = { results := [.lit (.bool true)], args := ds })
    (hW : DataW.Whole enc P f.params.toList s.vars apart W args.toList ds gs before) (hE : Ext W W') : s.post enc P f apart fresh handsOn again W args (.bool true) W' := by
  have hlt := hW.lt
  obtain ⟨p, q, hA, hV, hpq, _⟩ := id hW
  rw [hvars] at hV
  obtain ⟨rfl, rfl⟩ := trodVars_none hV
  have hfn' : s.fn H (ds ++ []) = { results := [.lit (.bool true)], args := ds } := by rw [List.append_nil]; exact hfn
  have hall : ∀ t ∈ f.params.toList, P.readableRec t = true ∧ t < P.types.size := fun t ht => by simpa using List.all_eq_true.1 hr t ht
  rw [List.append_nil] at hpq
  subst hpq
  have hres' : ∀ b sp hd, DataW.TrodAll enc P W' b sp hd f.resultTypes.toList ((Value.bool true).resultList f.resultTypes.size) (s.fn H (ds ++ [])).results [] := by
    intro b sp hd
    rw [hfn', hres]
    exact trodAll_mk1 (shut_bool ht _)
  have hargs : ∀ sp : Nat → Bool, (∀ x ∈ before, sp x.block = true) → DataW.TrodAll enc P W' 0 sp true f.params.toList args.toList (s.fn H (ds ++ [])).args before := by
    intro sp hsp
    rw [hfn']
    exact trodAll_stays hl hE _ _ _ _ hall hA hlt hsp
  have hvs : ∀ sp : Nat → Bool, DataW.TrodVars enc P W' sp s.vars (s.fn H (ds ++ [])).vars [] := by
    intro sp
    rw [hfn', hvars]
    rfl
  refine ⟨ds, [], before, [], before, [], hW, hres' _ _ _, hargs _ (fun x hx => by simpa using hlt x hx), hvs _, hE.frame _, fun _ => ?_⟩
  refine ⟨ok_one hres rfl (okWide_bool_mk ht _), _, _, ([] ++ before) ++ [], ⟨[] ++ before, [], trodAll_append (hargs _ (fun _ _ => rfl)) (hres' _ _ _), hvs _, rfl, ?_, ?_⟩, ?_⟩
  · intro b off hp
    obtain ⟨_, _, _, _, _, hz, _⟩ := hW
    have hp' : MemPlace.cell b off ∈ before := by simpa using hp
    rw [hE.frozen (hlt _ hp')]
    exact hz b off hp'
  · intro ha
    obtain ⟨_, _, _, _, _, _, hn⟩ := hW
    simpa using hn ha
  · intro p hp _
    simpa using hp

/-- the law's contract from its walk -/
theorem law_contract {f : Func} {n : FuncId} {s : ChangeSpec} {apart fresh handsOn again : Bool} {W : World} {args : Array Value} {ds gs : List (DataW H)} {before : List MemPlace} {t : TypeId}
    (hl : laidOutB P = true) (hr : (f.params.toList.all fun t => P.readableRec t && decide (t < P.types.size)) = true) (hvars : s.vars = []) (hres : f.resultTypes = #[t]) (ht : P.underlying t = some .bool)
    (hfn : s.fn H ds = { results := [.lit (.bool true)], args := ds })
    (hW : DataW.Whole enc P f.params.toList s.vars apart W args.toList ds gs before)
    (hc : Calls P n args W fun e W' => e = .returned (.bool true) ∧ Ext W W') :
    Calls P n args W fun e W' => ∃ v, e = .returned v ∧ s.post enc P f apart fresh handsOn again W args v W' :=
  hc.mono fun _ _ ⟨he, hE⟩ => ⟨_, he, law_post hl hr hvars hres ht hfn hW hE⟩
end
end Go.SX

/- SxX -/
namespace Go.SX
open Go.RowKit

/-- so many rounds of a loop at the most -/
def RoundsK (cx : Cx) (body : Code) (K : Exit → Env → Heap → Asn → Nat → Prop) : Nat → Env → Heap → Asn → Nat → Prop
  | 0, _, _, _, _ => False
  | n + 1, env, H, S, nx => Wp cx body env H S nx (fun e env' H' S' nx' => match e with
      | .normal => RoundsK cx body K n env' H' S' nx'
      | e => K e env' H' S' nx')
theorem Wp.rounds {cx : Cx} {body : Code} {env : Env} {H : Heap} {S : Asn} {nx : Nat} {K : Exit → Env → Heap → Asn → Nat → Prop} (n : Nat) (h : RoundsK cx body K n env H S nx) : Wp cx (.loop body) env H S nx K := by
  refine ⟨fun ρ a w hs hw => wp_loop_rounds n ?_⟩
  have key : ∀ (n : Nat) {env : Env} {H : Heap} {S : Asn} {nx1 : Nat} {ρ1 : Nat → Loc} {a : Act} {w : World}, RoundsK cx body K n env H S nx1 → (∀ i, i < nx → ρ1 i = ρ i) → nx ≤ nx1 → Sat cx.n ρ1 nx1 env a → Abs cx.B ρ1 nx1 H S w →
      Code.rounds cx.P body (fun e a' w' => ∃ ρ' env' H' S' nx', (∀ i, i < nx → ρ' i = ρ i) ∧ nx ≤ nx' ∧ Sat cx.n ρ' nx' env' a' ∧ Abs cx.B ρ' nx' H' S' w' ∧ K e env' H' S' nx') n a w := by
    intro n
    induction n with
    | zero => intro env H S nx1 ρ1 a w h; exact h.elim
    | succ n ih =>
      intro env H S nx1 ρ1 a w h hr hn hs hw
      rw [rounds_succ]
      have h' : Wp cx body env H S nx1 (fun e env' H' S' nx' => match e with
        | .normal => RoundsK cx body K n env' H' S' nx'
        | e => K e env' H' S' nx') := h
      refine wp_mono (h'.out ρ1 a w hs hw) ?_
      rintro e a' w' ⟨ρ', env', H', S', nx', h1, h2, h3, h4, h5⟩
      have hr' : ∀ i, i < nx → ρ' i = ρ i := fun i hi => (h1 i (Nat.lt_of_lt_of_le hi hn)).trans (hr i hi)
      cases e with
      | normal => exact ih h5 hr' (Nat.le_trans hn h2) h3 h4
      | _ => exact ⟨ρ', env', H', S', nx', hr', Nat.le_trans hn h2, h3, h4, h5⟩
  exact key n h (fun _ _ => rfl) (Nat.le_refl _) hs hw
/-- a fact that holds in every world at hand -/
theorem Wp.know {cx : Cx} {c : Code} {env : Env} {H : Heap} {S : Asn} {nx : Nat} {K : Exit → Env → Heap → Asn → Nat → Prop} {p : Prop} (h1 : ∀ ρ w, Abs cx.B ρ nx H S w → p) (h2 : p → Wp cx c env H S nx K) : Wp cx c env H S nx K :=
  ⟨fun ρ a w hs hw => (h2 (h1 ρ w hw)).out ρ a w hs hw⟩

theorem idx_z {base : Option Addr} {len size : Nat} {z : Int} {K : SV → Prop} {a : Addr} (hb : base = some a) (h0 : 0 ≤ z) (h1 : z < len) (h : K (.c (.pointer (some (a.add (z.toNat * size)))))) : idxK base len size z K := by
  rw [idxK_def]; exact ⟨a, hb, h0, h1, h⟩
theorem ro_int {a : Addr} {j : Nat} {S : Asn} {xs : List Int} {K : SV → Prop} (hx : ∀ R w, S.holds R w → RowsI w (some a) 1 (ints xs)) (hj : j < xs.length) (h : K (.c (.int .i64 (xs.getD j 0)))) : roK (a.add (j * 1)) S K :=
  ro_row0 hx [.int .i64 (xs.getD j 0)] (.int .i64 (xs.getD j 0)) (by rw [ints_get hj]; simp [List.getD, hj]) rfl h
theorem slice_full {base : Option Addr} {len cap size : Nat} {K : SV → Prop} (hc : len ≤ cap) (h : K (.c (.slice base len len))) : sliceK base len cap size none (some (len : Int)) (some (len : Int)) K := by
  rw [sliceK_def]
  refine ⟨0, len, len, rfl, rfl, rfl, Nat.zero_le _, Nat.le_refl _, hc, fun _ => rfl, ?_⟩
  have : (if len = 0 then base else base.map (·.add (0 * size))) = base := by
    split
    · rfl
    · cases base <;> simp [Addr.add]
  have e : len - 0 = len := Nat.sub_zero len
  rw [this, e]
  exact h
theorem Abs.grow {B : Base} {ρ : Nat → Loc} {nx : Nat} {H : Heap} {S : Asn} {w w' : World} {D : Asn} (hw : Abs B ρ nx H S w) (he : Ext w w') (hD : D.holds (fun b => w.heap.size ≤ b ∧ b < w'.heap.size) w') : Abs B ρ nx H (S.and (D.past B.w0.heap.size)) w' := by
  obtain ⟨R, φ, hwR⟩ := hw
  have hwR' := hwR.step (Step.of_ext he) (fun _ _ h => h) (fun _ _ _ _ h => h)
  refine ⟨fun b => R b ∨ (w.heap.size ≤ b ∧ b < w'.heap.size), φ, hwR'.os, hwR'.tape, hwR'.output, hwR'.size, hwR'.pin, fun b hb => hb.elim (hwR'.ro b) (fun h => h.2), ⟨S.stable (fun _ h => .inl h) (fun _ _ => rfl) hwR'.asn, ?_⟩, hwR'.key, hwR'.ent, fun p hp b hb hb' => ?_, hwR'.sep⟩
  · exact D.stable (fun b hb => ⟨.inr hb, Nat.le_trans hwR.size hb.1⟩) (fun _ _ => rfl) hD
  · rcases hb' with hb' | hb'
    · exact hwR'.apart p hp b hb hb'
    · have := Ent.size (hwR.ent p hp) hb; omega
/-- a call that hands back data in new memory, which stay -/
theorem call_past {cx : Cx} {f : FuncId} {args : List SV} {H : Heap} {S : Asn} {nx : Nat} {K : SV → Heap → Asn → Nat → Prop} (hf : ∀ ar w, (callFunc f ar).run cx.P w = .ok (.enter f ar) w) {α : Type} (val : α → Value) (D : α → Asn) (p : α → Prop)
    (hc : ∀ ρ w, Abs cx.B ρ nx H S w → Calls cx.P f (SV.rfs ρ args).toArray w (fun e w' => ∃ x, p x ∧ e = .returned (val x) ∧ Ext w w' ∧ (D x).holds (fun b => w.heap.size ≤ b ∧ b < w'.heap.size) w'))
    (h : ∀ x, p x → K (.c (val x)) H (S.and ((D x).past cx.B.w0.heap.size)) nx) : callK cx f args H S nx K := by
  rw [callK_def]
  refine ⟨hf, fun ρ w hw => (hc ρ w hw).mono ?_⟩
  rintro e w' ⟨x, hp, rfl, he, hD⟩
  exact ⟨.c (val x), ρ, H, _, nx, rfl, fun _ _ => rfl, Nat.le_refl _, SV.lt_c _, hw.grow he hD, h x hp⟩
/-- at the end: data of blocks from N on lie in new blocks -/
theorem past_new {B : Base} {ρ : Nat → Loc} {nx : Nat} {H : Heap} {S D : Asn} {w : World} (hw : Abs B ρ nx H S w) (hS : ∀ R w', S.holds R w' → (D.past B.w0.heap.size).holds R w') : D.holds (fun b => B.w0.heap.size ≤ b ∧ b < w.heap.size) w := by
  obtain ⟨R, φ, hw⟩ := hw
  exact D.stable (fun b hb => ⟨hb.2, hw.ro b hb.1⟩) (fun _ _ => rfl) (hS R w hw.asn)
end Go.SX

/- SxY -/
namespace Go.SX
open Go.RowKit

/-- the blocks that were there, but for one -/
def oth (w : World) (b : Nat) : Nat → Prop := fun x => x < w.heap.size ∧ x ≠ b
/-- all but one block stand as they did -/
def restA (w0 : World) (b : Nat) : Asn where
  holds R w := ∀ x, oth w0 b x → R x ∧ w.heap[x]? = w0.heap[x]?
  stable := fun hR hw h x hx => ⟨hR x (h x hx).1, (hw x (h x hx).1).trans (h x hx).2⟩
theorem rest_holds {w w' : World} {b : Nat} {R : Nat → Prop} {D : Asn} (h : D.holds (oth w b) w) (hr : (restA w b).holds R w') : D.holds R w' :=
  D.stable (fun x hx => (hr x hx).1) (fun x hx => (hr x hx).2) h
def boxL (b : Nat) : Loc := ⟨some ⟨b, 0, none⟩, 0⟩
/-- a function's beginning, with one box of its caller's -/
theorem abs_box {w : World} {b : Nat} {cells : List Value} {T : TypeId} (hb : w.heap[b]? = some (.cells cells.toArray T (0, 0))) :
    Abs ⟨w, [(0, boxL b)]⟩ (fun _ => boxL b) 1 [(0, .box (cs cells) T)] (restA w b) w := by
  refine ⟨oth w b, fun _ x => x = b, rfl, rfl, rfl, Nat.le_refl _, ?_, fun x hx => hx.1, fun x hx => ⟨hx, rfl⟩, ?_, ?_, ?_, ?_⟩
  · intro p hp; simp at hp; subst hp; exact ⟨Nat.lt_succ_self _, rfl⟩
  · intro p hp; simp at hp; subst hp; exact ⟨Nat.lt_succ_self _, fun i hi => absurd hi (by have := lts_cs 0 cells i; intro h; exact absurd (this h) (Nat.not_lt_zero _))⟩
  · intro p hp; simp at hp; subst hp; exact ⟨b, rfl, fun _ => Iff.rfl, by rw [rfs_cs]; exact hb⟩
  · intro p hp x hx hR; exact hR.2 hx
  · exact List.pairwise_singleton _ _
/-- at its end -/
theorem box_end {w w' : World} {b : Nat} {ρ : Nat → Loc} {nx : Nat} {H : Heap} {S : Asn} {cells : List Value} {T : TypeId} (hw : Abs ⟨w, [(0, boxL b)]⟩ ρ nx H S w') (hS : ∀ R w', S.holds R w' → (restA w b).holds R w') (he : (0, Ent.box (cs cells) T) ∈ H) :
    Step (fun y => y = b) w w' ∧ w'.heap[b]? = some (.cells cells.toArray T (0, 0)) := by
  obtain ⟨R, φ, hw⟩ := hw
  have hp := (hw.pin (0, boxL b) List.mem_cons_self).2
  obtain ⟨b', h1, h2, h3⟩ := hw.ent _ he
  simp only at hp h1
  rw [hp] at h1
  obtain rfl : b = b' := by simpa [boxL] using h1
  rw [rfs_cs] at h3
  exact ⟨⟨hw.os, hw.tape, hw.output, hw.size, fun x hx hne => (hS R w' hw.asn x ⟨hx, hne⟩).2⟩, h3⟩
/-- data in blocks beyond those that were there -/
theorem box_new {w w' : World} {b : Nat} {ρ : Nat → Loc} {nx : Nat} {H : Heap} {S D : Asn} (hw : Abs ⟨w, [(0, boxL b)]⟩ ρ nx H S w') (hD : ∀ R w', S.holds R w' → (D.past w.heap.size).holds R w') : D.holds (fun y => w.heap.size ≤ y ∧ y < w'.heap.size) w' := past_new hw hD

/-- what such a call leaves -/
def BoxPost {α : Type} (w : World) (b : Nat) (T : TypeId) (val : α → Value) (cells : α → List Value) (D : α → Asn) (p : α → Prop) (e : Ending) (w' : World) : Prop :=
  ∃ x, p x ∧ e = .returned (val x) ∧ Step (fun y => y = b) w w' ∧ w'.heap[b]? = some (.cells (cells x).toArray T (0, 0)) ∧ (D x).holds (fun y => w.heap.size ≤ y ∧ y < w'.heap.size) w'
theorem call_box {cx : Cx} {f : FuncId} {args : List SV} {H : Heap} {S : Asn} {nx i : Nat} {K : SV → Heap → Asn → Nat → Prop} {cells : List SV} {T : TypeId} (hi : (i, Ent.box cells T) ∈ H) (hf : ∀ ar w, (callFunc f ar).run cx.P w = .ok (.enter f ar) w) {α : Type} (val : α → Value) (cells' : α → List Value) (D : α → Asn) (p : α → Prop)
    (hc : ∀ R ρ w b, Abs cx.B ρ nx H S w → S.holds R w → (∀ x, R x → oth w b x) → (ρ i).base = some ⟨b, 0, none⟩ → w.heap[b]? = some (.cells (SV.rfs ρ cells).toArray T (0, 0)) → Calls cx.P f (SV.rfs ρ args).toArray w (BoxPost w b T val cells' D p))
    (h : ∀ x, p x → K (.c (val x)) (setH i (.box (cs (cells' x)) T) H) (S.and ((D x).past cx.B.w0.heap.size)) nx) : callK cx f args H S nx K := by
  rw [callK_def]
  refine ⟨hf, fun ρ w hw => ?_⟩
  have hw0 := hw
  obtain ⟨R, φ, hwR⟩ := hw
  obtain ⟨b, h1, h2, h3⟩ := hwR.ent _ hi
  simp only at h1 h2
  refine (hc R ρ w b hw0 hwR.asn (fun x hx => ⟨hwR.ro x hx, fun e => hwR.apart _ hi x ((h2 x).2 e) hx⟩) h1 h3).mono ?_
  rintro e w' ⟨x, hp, rfl, hs, hb, hD⟩
  have hlt : (Ent.box (cs (cells' x)) T).lt nx := fun y hy => lts_cs nx _ y hy
  have h' := hwR.store hi hlt (w' := w') fun F hF => by
    obtain ⟨b', g1, g2, g3⟩ := hF
    obtain rfl : b = b' := by rw [h1] at g1; simpa using g1
    exact ⟨⟨hs.os, hs.tape, hs.output, hs.size, fun y hy hne => hs.block y hy fun e => hne ((g2 y).2 e)⟩, b, g1, g2, by rw [rfs_cs]; exact hb⟩
  refine ⟨.c (val x), ρ, _, _, nx, rfl, fun _ _ => rfl, Nat.le_refl _, SV.lt_c _, ?_, h x hp⟩
  refine ⟨fun y => R y ∨ (w.heap.size ≤ y ∧ y < w'.heap.size), φ, h'.os, h'.tape, h'.output, h'.size, h'.pin, fun y hy => hy.elim (h'.ro y) (fun h => h.2), ⟨S.stable (fun _ h => .inl h) (fun _ _ => rfl) h'.asn, ?_⟩, h'.key, h'.ent, fun q hq y hy hy' => ?_, h'.sep⟩
  · exact (D x).stable (fun y hy => ⟨.inr hy, Nat.le_trans hwR.size hy.1⟩) (fun _ _ => rfl) hD
  · rcases hy' with hy' | hy'
    · exact h'.apart q hq y hy hy'
    · have hk : q.1 ∈ H.map (·.1) := by rw [← keys_setH i (.box (cs (cells' x)) T) H]; exact List.mem_map.2 ⟨q, hq, rfl⟩
      obtain ⟨q', hq', e⟩ := List.mem_map.1 hk
      rw [← e] at hy
      have := Ent.size (hwR.ent q' hq') hy
      omega
end Go.SX

/- SxZ -/
namespace Go.SX
open Go.RowKit
theorem sep_two {φ : Nat → Nat → Prop} : ∀ {H : Heap}, H.Pairwise (fun p q => p.1 ≠ q.1 ∧ ∀ b, φ p.1 b → ¬ φ q.1 b) → ∀ {p q : Nat × Ent}, p ∈ H → q ∈ H → p.1 ≠ q.1 → ∀ b, φ p.1 b → ¬ φ q.1 b
  | [], _, p, q, hp, _, _, _, _ => by cases hp
  | x :: r, hs, p, q, hp, hq, hne, b, hb => by
    obtain ⟨hx, hr⟩ := List.pairwise_cons.1 hs
    intro hb'
    rcases List.mem_cons.1 hp with gp | gp <;> rcases List.mem_cons.1 hq with gq | gq
    · exact hne (by rw [gp, gq])
    · rw [← gp] at hx; exact (hx _ gq).2 b hb hb'
    · rw [← gq] at hx; exact (hx _ gp).2 b hb' hb
    · exact sep_two hr gp gq hne b hb hb'
/-- one's own rows, in a function that got a box: they are new -/
theorem box_rows {w w' : World} {b : Nat} {ρ : Nat → Loc} {nx j k : Nat} {H : Heap} {S : Asn} {cells : List SV} {T T' : TypeId} {xs : List (List Value)} (hw : Abs ⟨w, [(0, boxL b)]⟩ ρ nx H S w') (hS : ∀ R w', S.holds R w' → (restA w b).holds R w') (h0 : (0, Ent.box cells T) ∈ H) (he : (j, Ent.rows xs k T') ∈ H) (hj : j ≠ 0) :
    NewRows w w' ((SV.os j xs.length).rf ρ) k T' xs := by
  obtain ⟨R, φ, hw⟩ := hw
  have hp := (hw.pin (0, boxL b) List.mem_cons_self).2
  obtain ⟨b', h1, h2, h3⟩ := hw.ent _ h0
  simp only at hp h1
  rw [hp] at h1
  obtain rfl : b = b' := by simpa [boxL] using h1
  refine ⟨ρ j, rfl, φ j, fun x hx => ?_, hw.ent _ he⟩
  rcases Nat.lt_or_ge x w.heap.size with hl | hl
  · exfalso
    by_cases hxb : x = b
    · exact sep_two hw.sep he h0 hj x hx ((h2 x).2 hxb)
    · exact hw.apart _ he x hx (hS R w' hw.asn x ⟨hl, hxb⟩).1
  · exact hl
end Go.SX

/- SxZa -/
namespace Go.SX
open Go.RowKit

/-- the blocks that were there, but for some -/
def othF (w : World) (F : Nat → Prop) : Nat → Prop := fun x => x < w.heap.size ∧ ¬ F x
/-- all but some blocks stand as they did -/
def restF (w0 : World) (F : Nat → Prop) : Asn where
  holds R w := ∀ x, othF w0 F x → R x ∧ w.heap[x]? = w0.heap[x]?
  stable := fun hR hw h x hx => ⟨hR x (h x hx).1, (hw x (h x hx).1).trans (h x hx).2⟩

/-- at block b: a slice; its rows; F: the blocks of both -/
def SliceAt (T TE : TypeId) (k : Nat) (xs : List (List Value)) (b : Nat) (F : Nat → Prop) (w : World) : Prop :=
  ∃ (v : Loc) (G : Nat → Prop), w.heap[b]? = some (.cells #[.slice v.base xs.length v.cap] T (0, 0)) ∧ (∀ x, F x ↔ x = b ∨ G x) ∧ ¬ G b ∧ (Ent.rows xs k TE).holds (fun _ => v) v G w
theorem SliceAt.stable {T TE : TypeId} {k : Nat} {xs : List (List Value)} {b : Nat} {F : Nat → Prop} {w w' : World} (hf : ∀ x, F x → w'.heap[x]? = w.heap[x]?) (h : SliceAt T TE k xs b F w) : SliceAt T TE k xs b F w' := by
  obtain ⟨v, G, h1, h2, h3, h4⟩ := h
  exact ⟨v, G, by rw [hf b ((h2 b).2 (.inl rfl))]; exact h1, h2, h3, Ent.stable (fun x hx => hf x ((h2 x).2 (.inr hx))) h4⟩
theorem SliceAt.size {T TE : TypeId} {k : Nat} {xs : List (List Value)} {b : Nat} {F : Nat → Prop} {w : World} (h : SliceAt T TE k xs b F w) {x : Nat} (hx : F x) : x < w.heap.size := by
  obtain ⟨v, G, h1, h2, h3, h4⟩ := h
  rcases (h2 x).1 hx with rfl | hx
  · exact lt_size_of_some h1
  · exact Ent.size h4 hx
def sliceO (T TE : TypeId) (k : Nat) (xs : List (List Value)) : Own where
  holds l F w := ∃ b, l.base = some ⟨b, 0, none⟩ ∧ SliceAt T TE k xs b F w
  stable := fun hf ⟨b, h1, h2⟩ => ⟨b, h1, h2.stable hf⟩
  lt := fun ⟨_, _, h⟩ hx => h.size hx

/-- an entry written, its blocks among its own and new ones -/
theorem AbsR.move {B : Base} {R : Nat → Prop} {φ : Nat → Nat → Prop} {ρ : Nat → Loc} {nx : Nat} {H : Heap} {S : Asn} {w w' : World} {i : Nat} {e e' : Ent} (h : AbsR B R φ ρ nx H S w) (hi : (i, e) ∈ H) (hlt : e'.lt nx) {F' : Nat → Prop}
    (hs : Step (φ i) w w') (hF : ∀ y, F' y → φ i y ∨ w.heap.size ≤ y) (he' : e'.holds ρ (ρ i) F' w') : AbsR B R (fun j => if j = i then F' else φ j) ρ nx (setH i e' H) S w' := by
  have hR : ∀ b, R b → ¬ φ i b := fun b hb hb' => h.apart _ hi b hb' hb
  have hk : ((setH i e' H).map (·.1)).Pairwise (· ≠ ·) := by rw [keys_setH]; exact List.pairwise_map.2 (h.sep.imp fun x => x.1)
  have hk' : (setH i e' H).Pairwise fun p q => p.1 ≠ q.1 ∧ True := (List.pairwise_map.1 hk).imp fun x => ⟨x, trivial⟩
  have mem : ∀ p ∈ setH i e' H, p = (i, e') ∨ (p.1 ≠ i ∧ p ∈ H) := by
    intro p hp
    obtain ⟨pi, pe⟩ := p
    by_cases hpi : pi = i
    · subst hpi
      have : pe = e' := keys_unique hk' hp (mem_setH_self hi)
      subst this
      exact .inl rfl
    · rcases mem_setH hp with ⟨h1, _⟩ | h1
      · exact absurd (by simpa using congrArg Prod.fst h1) hpi
      · exact .inr ⟨hpi, h1⟩
  refine ⟨hs.os.trans h.os, hs.tape.trans h.tape, hs.output.trans h.output, Nat.le_trans h.size hs.size, h.pin, fun b hb => Nat.lt_of_lt_of_le (h.ro b hb) hs.size,
    S.stable (fun _ hb => hb) (fun b hb => hs.block b (h.ro b hb) (hR b hb)) h.asn, ?_, ?_, ?_, ?_⟩
  · intro p hp
    rcases mem p hp with rfl | ⟨_, hp⟩
    · exact ⟨(h.key _ hi).1, hlt⟩
    · exact h.key p hp
  · intro p hp
    rcases mem p hp with rfl | ⟨hne, hp⟩
    · simp only [if_true]; exact he'
    · simp only [if_neg hne]
      exact Ent.stable (fun b hb => hs.block b (Ent.size (h.ent p hp) hb) (sep_two h.sep hp hi hne b hb)) (h.ent p hp)
  · intro p hp b hb
    rcases mem p hp with rfl | ⟨hne, hp⟩
    · simp only [if_true] at hb
      rcases hF b hb with hb | hb
      · exact h.apart _ hi b hb
      · intro hRb; have := h.ro b hRb; omega
    · simp only [if_neg hne] at hb
      exact h.apart p hp b hb
  · refine List.Pairwise.imp_of_mem (R := fun p q => p.1 ≠ q.1) (fun {p q} hp hq hpq => ⟨hpq, fun b hb hb' => ?_⟩) (List.pairwise_map.1 hk)
    rcases mem p hp with rfl | ⟨hpn, hp⟩ <;> rcases mem q hq with rfl | ⟨hqn, hq⟩
    · exact hpq rfl
    · simp only [if_true, if_neg hqn] at hb hb'
      rcases hF b hb with hb | hb
      · exact sep_two h.sep hi hq hpq b hb hb'
      · have := Ent.size (h.ent q hq) hb'; omega
    · simp only [if_true, if_neg hpn] at hb hb'
      rcases hF b hb' with hb' | hb'
      · exact sep_two h.sep hp hi hpq b hb hb'
      · have := Ent.size (h.ent p hp) hb; omega
    · simp only [if_neg hpn, if_neg hqn] at hb hb'
      exact sep_two h.sep hp hq hpq b hb hb'

theorem SliceAt.at {T TE : TypeId} {k : Nat} {xs : List (List Value)} {b : Nat} {F : Nat → Prop} {w : World} (h : SliceAt T TE k xs b F w) : F b := by
  obtain ⟨v, G, h1, h2, h3, h4⟩ := h
  exact (h2 b).2 (.inl rfl)
theorem SliceAt.cell {T TE : TypeId} {k : Nat} {xs : List (List Value)} {b : Nat} {F : Nat → Prop} {w : World} (h : SliceAt T TE k xs b F w) : ∃ (v : Loc) (G : Nat → Prop), w.cell? ⟨b, 0, none⟩ = some (.slice v.base xs.length v.cap) ∧ (∀ x, F x ↔ x = b ∨ G x) ∧ ¬ G b ∧ (Ent.rows xs k TE).holds (fun _ => v) v G w := by
  obtain ⟨v, G, h1, h2, h3, h4⟩ := h
  exact ⟨v, G, by simp [World.cell?, h1], h2, h3, h4⟩
/-- a new box of a nil slice is such a slice -/
theorem Wp.slice {cx : Cx} {c : Code} {env : Env} {H1 H2 : Heap} {S : Asn} {nx i : Nat} {K : Exit → Env → Heap → Asn → Nat → Prop} {T : TypeId} (TE : TypeId) (k : Nat) (h : Wp cx c env (H1 ++ (i, .ext (sliceO T TE k [])) :: H2) S nx K) : Wp cx c env (H1 ++ (i, .box [.c (.slice none 0 0)] T) :: H2) S nx K := by
  refine ⟨fun ρ a w hs hw => h.out ρ a w hs ?_⟩
  obtain ⟨R, φ, hw⟩ := hw
  have conv : ∀ {Q : Nat × Ent → Prop}, (∀ p ∈ H1 ++ (i, Ent.box [.c (.slice none 0 0)] T) :: H2, Q p) → Q (i, .ext (sliceO T TE k [])) → ∀ p ∈ H1 ++ (i, Ent.ext (sliceO T TE k [])) :: H2, Q p := by
    intro Q hQ hq p hp
    rcases List.mem_append.1 hp with hp | hp
    · exact hQ p (List.mem_append.2 (.inl hp))
    · rcases List.mem_cons.1 hp with rfl | hp
      · exact hq
      · exact hQ p (List.mem_append.2 (.inr (List.mem_cons_of_mem _ hp)))
  have hm : (i, Ent.box [.c (.slice none 0 0)] T) ∈ H1 ++ (i, Ent.box [.c (.slice none 0 0)] T) :: H2 := by simp
  refine ⟨R, φ, hw.os, hw.tape, hw.output, hw.size, hw.pin, hw.ro, hw.asn, conv hw.key ⟨(hw.key _ hm).1, fun x hx => by simp [Ent.hass] at hx⟩, conv hw.ent ?_, conv hw.apart (fun b hb => hw.apart _ hm b hb), ?_⟩
  · obtain ⟨b, h1, h2, h3⟩ := hw.ent _ hm
    refine ⟨b, h1, ⟨none, 0⟩, fun _ => False, by simpa [SV.rfs, SV.rf] using h3, fun x => by simp [h2 x], fun h => h, by simp, by simp, .inl ⟨rfl, rfl, fun x h => h⟩⟩
  · have e1 : ((H1 ++ (i, Ent.box [.c (.slice none 0 0)] T) :: H2).map Prod.fst).Pairwise (fun a b => a ≠ b ∧ ∀ x, φ a x → ¬ φ b x) := List.pairwise_map.2 hw.sep
    rw [List.map_append, List.map_cons] at e1
    have e2 : (H1 ++ (i, Ent.ext (sliceO T TE k [])) :: H2).map Prod.fst = H1.map Prod.fst ++ i :: H2.map Prod.fst := by rw [List.map_append, List.map_cons]
    have e3 : ((H1 ++ (i, Ent.ext (sliceO T TE k [])) :: H2).map Prod.fst).Pairwise (fun a b => a ≠ b ∧ ∀ x, φ a x → ¬ φ b x) := by rw [e2]; exact e1
    exact List.pairwise_map.1 e3
end Go.SX

/- SxZb -/
namespace Go.SX
open Go.RowKit

def byts (l : List Int) : List (List Value) := l.map fun x => [Value.int .u8 x]
end Go.SX

/- SxZc -/
namespace Go.SX
open Go.RowKit
structure RdV where
  base : Option Addr
  cap : Nat
  bs : List Int
def RdV.val (v : RdV) : Value := .slice v.base v.bs.length v.cap
def bytsD (u : RdV) : Asn := rowsA u.base 1 (byts u.bs)
/-- what is left of some bytes -/
structure Rest (u u' : RdV) : Prop where
  drop : ∃ k, u'.bs = u.bs.drop k
  room : u'.bs.length ≤ u'.cap
  data : ∀ R w, (bytsD u).holds R w → (bytsD u').holds R w
theorem Rest.trans {a b c : RdV} (h : Rest a b) (g : Rest b c) : Rest a c := by
  obtain ⟨⟨k, hk⟩, h2, h3⟩ := h
  obtain ⟨⟨j, hj⟩, g2, g3⟩ := g
  exact ⟨⟨k + j, by rw [hj, hk, List.drop_drop]⟩, g2, fun R w hh => g3 R w (h3 R w hh)⟩
theorem Rest.refl {a : RdV} (h : a.bs.length ≤ a.cap) : Rest a a := ⟨⟨0, rfl⟩, h, fun _ _ h => h⟩
theorem Rest.bytes {u u' : RdV} (h : Rest u u') (hb : ∀ x ∈ u.bs, 0 ≤ x ∧ x ≤ 255) : ∀ x ∈ u'.bs, 0 ≤ x ∧ x ≤ 255 := by
  obtain ⟨⟨k, hk⟩, _, _⟩ := h
  intro x hx
  rw [hk] at hx
  exact hb x (List.mem_of_mem_drop hx)
theorem Rest.len {u u' : RdV} (h : Rest u u') : u'.bs.length ≤ u.bs.length := by
  obtain ⟨⟨k, hk⟩, _, _⟩ := h
  rw [hk, List.length_drop]; omega
def trueA : Asn := ⟨fun _ _ => True, fun _ _ h => h⟩
theorem callK_weak {cx : Cx} {f : FuncId} {args : List SV} {H : Heap} {S : Asn} {nx : Nat} {K : SV → Heap → Asn → Nat → Prop}
    (h : callK cx f args H S nx (fun v H' S' nx' => ∃ S2 : Asn, (∀ R w, S'.holds R w → S2.holds R w) ∧ K v H' S2 nx')) : callK cx f args H S nx K := by
  rw [callK_def] at h ⊢
  refine ⟨h.1, fun ρ w hw => (h.2 ρ w hw).mono ?_⟩
  rintro e w' ⟨v, ρ', H', S', nx', h1, h2, h3, h4, h5, S2, h6, h7⟩
  exact ⟨v, ρ', H', S2, nx', h1, h2, h3, h4, h5.sub (List.Sublist.refl _) h6, h7⟩
end Go.SX

/- SxZd -/
namespace Go.SX
open Go.RowKit
structure doneK (K : SV → Heap → Asn → Nat → Prop) (v : SV) (H : Heap) (S : Asn) (nx : Nat) : Prop where
  out : K v H S nx
theorem done_of {K : SV → Heap → Asn → Nat → Prop} {v : SV} {H : Heap} {S : Asn} {nx : Nat} (h : K v H S nx) : doneK K v H S nx := ⟨h⟩
def inlK (cx : Cx) (rs : List ResultVar) (K : SV → Heap → Asn → Nat → Prop) : Exit → Env → Heap → Asn → Nat → Prop
  | .normal, env, H, S, nx => resK cx env H S (fun l => doneK K (oneOf l) H S nx) rs
  | .ret, env, H, S, nx => resK cx env H S (fun l => doneK K (oneOf l) H S nx) rs
  | _, _, _, _, _ => False
theorem oneOf_lt {nx : Nat} {l : List SV} (h : SV.lts nx l) : (oneOf l).lt nx := by
  match l, h with
  | [], h => exact SV.lt_tup.2 h
  | [v], h => exact SV.lts_iff.1 h v (by simp)
  | a :: b :: r, h => exact SV.lt_tup.2 h
theorem call_inline {P : Program} {B : Base} {n0 : Nat} {tab : List (Nat × TI)} (hok : ∀ p ∈ tab, mkTI P p.1 = some p.2) {f : FuncId} {fn : Func} {c : Code} {n : Nat} {rs : List ResultVar} (hf : P.funcs[f]? = some fn) (hb : fn.body = some c) (hn : fn.ntmps = n) (hrs : fn.results.toList = rs) (hen : ∀ as w, (callFunc f as).run P w = .ok (.enter f as) w)
    {args : List SV} {H : Heap} {S : Asn} {nx : Nat} {K : SV → Heap → Asn → Nat → Prop} (hlt : SV.bnds nx args = true) (hlen : args.length ≤ n) (h : Wp ⟨P, B, n, tab⟩ c (number 0 args) H S nx (inlK ⟨P, B, n, tab⟩ rs K)) : callK ⟨P, B, n0, tab⟩ f args H S nx K := by
  subst hn
  subst hrs
  rw [callK_def]
  refine ⟨hen, fun ρ w hw => ?_⟩
  refine calls_of_wp hf hb ?_
  rw [Wp_def] at h
  refine wp_mono (h ρ _ w ?_ hw) ?_
  · refine ⟨rfl, by simp [rfs_length]; omega, fun t v hv ht => ?_, fun t v hv => ?_⟩
    · obtain ⟨j, rfl, hj⟩ := number_get hv
      have hjl := (List.getElem?_eq_some_iff.1 hj).1
      simp only [Nat.zero_add]
      rw [Array.getElem?_append_left (by simp [rfs_length]; omega)]
      simp [SV.rfs_eq, hj]
    · obtain ⟨j, rfl, hj⟩ := number_get hv
      exact SV.lts_iff.1 (SV.bnds_lt hlt) v (List.mem_of_getElem? hj)
  · rintro e a' w' ⟨ρ', env', H', S', nx', h2, h3, h4, h5, h6⟩
    have fin : ∀ {Q : Prop}, (resK ⟨P, B, fn.ntmps, tab⟩ env' H' S' (fun l => doneK K (oneOf l) H' S' nx') fn.results.toList) → (a'.defers = [] ∧ ∃ v, (results fn a'.tmps).run P w' = .ok v w' ∧ ∃ u ρ'' H'' S'' nx'', Ending.returned v = .returned (u.rf ρ'') ∧ (∀ i, i < nx → ρ'' i = ρ i) ∧ nx ≤ nx'' ∧ u.lt nx'' ∧ Abs B ρ'' nx'' H'' S'' w' ∧ K u H'' S'' nx'') := by
      intro Q h6
      obtain ⟨l, g1, g2, g3⟩ := resK_spec (cx := ⟨P, B, fn.ntmps, tab⟩) hok h4 h5 h6
      refine ⟨h4.defers, _, results_run g3, oneOf l, ρ', H', S', nx', ?_, h2, h3, oneOf_lt g2, h5, g1.out⟩
      rw [oneOf_rf]
    cases e with
    | normal => exact fin (Q := True) h6
    | ret => exact fin (Q := True) h6
    | _ => exact h6.elim
end Go.SX

/- SxZe -/
namespace Go.SX
open Go.RowKit
/-- One's own rows are written no more: from here on they stay. -/
theorem Wp.freezeN {cx : Cx} {c : Code} {env : Env} {H : Heap} {S : Asn} {nx : Nat} {K : Exit → Env → Heap → Asn → Nat → Prop} (i N : Nat) {xs : List (List Value)} {k : Nat} {T : TypeId} (he : (i, Ent.rows xs k T) ∈ H) (hN : ∀ R w, S.holds R w → ∀ b, b < N → R b)
    (h : ∀ l : Loc, xs.length ≤ l.cap → Wp cx c (env.fz i l) (Heap.fz i l (delH i H)) (S.and ((rowsA l.base k xs).past N)) nx K) : Wp cx c env H S nx K := by
  simp only [Wp_def] at *
  intro ρ a w hs hw
  obtain ⟨R, φ, hw⟩ := hw
  have hent := hw.ent _ he
  obtain ⟨hr, hcap, hent'⟩ := hent
  have hdel : ∀ p ∈ delH i H, p.1 ≠ i ∧ ∀ b, φ p.1 b → ¬ φ i b := by
    have : ∀ {H : Heap}, H.Pairwise (fun p q => p.1 ≠ q.1 ∧ ∀ b, φ p.1 b → ¬ φ q.1 b) → ∀ {e : Ent}, (i, e) ∈ H → ∀ p ∈ delH i H, p.1 ≠ i ∧ ∀ b, φ p.1 b → ¬ φ i b := by
      intro H hsep
      induction H with
      | nil => intro e he; cases he
      | cons q r ih =>
        obtain ⟨hq, hr⟩ := List.pairwise_cons.1 hsep
        intro e he p hp
        obtain ⟨qi, qe⟩ := q
        unfold delH at hp
        cases hbq : Nat.beq qi i with
        | true =>
          rw [hbq, cond_true] at hp
          have := Nat.eq_of_beq_eq_true hbq
          subst this
          exact ⟨(hq p hp).1.symm, fun b hb hb' => (hq p hp).2 b hb' hb⟩
        | false =>
          rw [hbq, cond_false] at hp
          have hne := Nat.ne_of_beq_eq_false hbq
          have her : (i, e) ∈ r := (List.mem_cons.1 he).resolve_left (fun g => hne (by simpa using congrArg Prod.fst g.symm))
          rcases List.mem_cons.1 hp with g | g
          · subst g; exact ⟨hne, (hq _ her).2⟩
          · exact ih hr her p g
    exact this hw.sep he
  refine h (ρ i) hcap ρ a w ⟨hs.defers, hs.size, fun t v hv ht => ?_, fun t v hv => ?_⟩ ?_
  · obtain ⟨u, hu, rfl⟩ := Env.get_fz hv
    rw [hs.val t u hu ht, SV.rf_fz]
  · obtain ⟨u, hu, rfl⟩ := Env.get_fz hv
    exact fun x hx => hs.lt t u hu x (SV.has_fz hx)
  · have hsub := hw.drop (delH_sublist i H)
    refine ⟨fun b => R b ∨ φ i b, φ, hw.os, hw.tape, hw.output, hw.size, hw.pin, fun b hb => hb.elim (hw.ro b) (fun hb => Ent.size (hw.ent _ he) hb), ⟨S.stable (fun _ h => .inl h) (fun _ _ => rfl) hw.asn, ?_⟩, ?_, ?_, ?_, ?_⟩
    · refine ⟨hr, ?_⟩
      rcases hent' with ⟨h1, h2, _⟩ | ⟨b, off, c', h1, h2, h3, h4, h5⟩
      · simp only at hcap h2; exact .inl (List.eq_nil_of_length_eq_zero (by omega))
      · exact .inr ⟨b, off, h1, ⟨.inr ((h2 b).2 rfl), Nat.le_of_not_lt fun hb => hw.apart _ he b ((h2 b).2 rfl) (hN R w hw.asn b hb)⟩, fun m r hm j v hj => by have := h5 m r hm j v hj; rw [← Nat.add_assoc]; simpa [World.cell?, h3] using this⟩
    · rw [Heap.fz_eq]
      intro p hp
      obtain ⟨q, hq, rfl⟩ := List.mem_map.1 hp
      refine ⟨(hsub.key q hq).1, fun x hx => ?_⟩
      cases hqe : q.2 with
      | box cs T =>
        rw [hqe] at hx
        have := (hsub.key q hq).2
        rw [hqe] at this
        exact this x (SV.hass_fz hx)
      | rows xs k T => rw [hqe] at hx; simp [Ent.fz, Ent.hass] at hx
      | ext o => rw [hqe] at hx; simp [Ent.fz, Ent.hass] at hx
    · rw [Heap.fz_eq]
      intro p hp
      obtain ⟨q, hq, rfl⟩ := List.mem_map.1 hp
      have := hsub.ent q hq
      dsimp only
      cases hqe : q.2 with
      | box cs T =>
        rw [hqe] at this
        obtain ⟨b, h1, h2, h3⟩ := this
        exact ⟨b, h1, h2, by rw [SV.rfs_fz]; exact h3⟩
      | rows xs k T => rw [hqe] at this; exact this
      | ext o => rw [hqe] at this; exact this
    · rw [Heap.fz_eq]
      intro p hp b hb hb'
      obtain ⟨q, hq, rfl⟩ := List.mem_map.1 hp
      exact hb'.elim (hsub.apart q hq b hb) ((hdel q hq).2 b hb)
    · rw [Heap.fz_eq]
      exact List.pairwise_map.2 hsub.sep
end Go.SX

/- SxZf -/
namespace Go.SX
open Go.RowKit
end Go.SX

/- SxZg -/
namespace Go.SX
open Go.RowKit
end Go.SX

/- SxZh -/
namespace Go.SX
open Go.RowKit
end Go.SX

/- SxZl -/
namespace Go.SX
open Go.RowKit
theorem abs_map {r : Nat} {m : Int → Option Value} {w : World} (h : mapHolds r m w) : Abs ⟨w, []⟩ (fun _ => ⟨none, 0⟩) 1 [(0, .ext (mapO r m))] (restF w (fun x => x = r)) w := by
  refine ⟨othF w (fun x => x = r), fun _ x => x = r, rfl, rfl, rfl, Nat.le_refl _, ?_, fun x hx => hx.1, fun x hx => ⟨hx, rfl⟩, ?_, ?_, ?_, ?_⟩
  · intro p hp; simp at hp
  · intro p hp; simp at hp; subst hp; exact ⟨Nat.lt_succ_self _, fun i hi => by simp [Ent.hass] at hi⟩
  · intro p hp; simp at hp; subst hp; exact ⟨fun _ => Iff.rfl, h⟩
  · intro p hp x hx hR; exact hR.2 hx
  · exact List.pairwise_singleton _ _
theorem map_end {r i : Nat} {m : Int → Option Value} {w w' : World} {ρ : Nat → Loc} {nx : Nat} {H : Heap} {S : Asn} (hw : Abs ⟨w, []⟩ ρ nx H S w') (hS : ∀ R w', S.holds R w' → (restF w (fun x => x = r)).holds R w') (hi : (i, Ent.ext (mapO r m)) ∈ H) : Step (fun x => x = r) w w' ∧ mapHolds r m w' := by
  obtain ⟨R, φ, hw⟩ := hw
  obtain ⟨h1, h2⟩ := hw.ent _ hi
  have hrest := hS R w' hw.asn
  exact ⟨⟨hw.os, hw.tape, hw.output, hw.size, fun x hx hne => (hrest x ⟨hx, hne⟩).2⟩, h2⟩
/-- a cell is not in a map's block -/
theorem cell_map {r : Nat} {m : Int → Option Value} {w w' : World} {a : Addr} {v : Value} {R : Nat → Prop} (h : mapHolds r m w) (hc : w.cell? a = some v) (hr : (restF w (fun x => x = r)).holds R w') : w'.cell? a = some v := by
  have hne : a.block ≠ r := by
    rintro rfl
    obtain ⟨es, clock, h1, _⟩ := h
    unfold World.cell? at hc
    rw [h1] at hc
    simp at hc
  rw [cell_same (hr _ ⟨cell_block hc, hne⟩).2]
  exact hc
theorem rows_map {r : Nat} {m : Int → Option Value} {w w' : World} {R : Nat → Prop} {base : Option Addr} {k : Nat} {xs : List (List Value)} (h : mapHolds r m w) (hx : RowsI w base k xs) (hr : (restF w (fun x => x = r)).holds R w') : RowsI w' base k xs := by
  rcases hx with hx | ⟨a, ha, hx⟩
  · exact .inl hx
  · exact .inr ⟨a, ha, fun i r' hi j v hj => cell_map h (hx i r' hi j v hj) hr⟩
/-- what such a call leaves -/
def MapPost {α : Type} (w : World) (r : Nat) (val : α → Value) (f : α → Int → Option Value) (p : α → Prop) (e : Ending) (w' : World) : Prop :=
  ∃ x, p x ∧ e = .returned (val x) ∧ Step (fun y => y = r) w w' ∧ mapHolds r (f x) w'
theorem call_map {cx : Cx} {f : FuncId} {args : List SV} {H : Heap} {S : Asn} {nx i r : Nat} {m : Int → Option Value} {K : SV → Heap → Asn → Nat → Prop} (hi : (i, Ent.ext (mapO r m)) ∈ H) (hf : ∀ ar w, (callFunc f ar).run cx.P w = .ok (.enter f ar) w)
    {α : Type} (val : α → Value) (g : α → Int → Option Value) (p : α → Prop) (hc : ∀ ρ w, Abs cx.B ρ nx H S w → mapHolds r m w → Calls cx.P f (SV.rfs ρ args).toArray w (MapPost w r val g p))
    (h : ∀ x, p x → setHK i (.ext (mapO r (g x))) (fun H' => K (.c (val x)) H' S nx) H) : callK cx f args H S nx K := by
  rw [callK_def]
  refine ⟨hf, fun ρ w hw => ?_⟩
  have hw0 := hw
  obtain ⟨R, φ, hwR⟩ := hw
  obtain ⟨h1, h2⟩ := hwR.ent _ hi
  refine (hc ρ w hw0 h2).mono ?_
  rintro e w' ⟨x, hp, rfl, hs, hm⟩
  have h' := h x hp
  rw [setHK_eq] at h'
  refine ⟨.c (val x), ρ, _, S, nx, rfl, fun _ _ => rfl, Nat.le_refl _, SV.lt_c _, hw0.store hi (fun y hy => by simp [Ent.hass] at hy) fun F hF => ?_, h'⟩
  exact ⟨⟨hs.os, hs.tape, hs.output, hs.size, fun b hb hne => hs.block b hb fun e => hne ((hF.1 b).2 e)⟩, hF.1, hm⟩
end Go.SX

