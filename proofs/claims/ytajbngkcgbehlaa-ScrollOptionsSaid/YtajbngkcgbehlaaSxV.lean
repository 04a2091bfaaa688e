import Derived.Test.YtajbngkcgbehlaaSxU
namespace Go.SX
open Go.RowKit

theorem call_bool {cx : Cx} {f : FuncId} {args : List SV} {H : Heap} {S : Asn} {nx : Nat} {K : SV → Heap → Asn → Nat → Prop} (hf : ∀ as w, (callFunc f as).run cx.P w = .ok (.enter f as) w) (b : Bool)
    (hc : ∀ ρ w, Abs cx.B ρ nx H S w → Calls cx.P f (SV.rfs ρ args).toArray w (fun e w' => e = .returned (.bool b) ∧ Ext w w')) (h1 : b = true → K (.c (.bool true)) H S nx) (h2 : b = false → K (.c (.bool false)) H S nx) : callK cx f args H S nx K := by
  cases b with
  | true => exact call_pure hf _ hc (h1 rfl)
  | false => exact call_pure hf _ hc (h2 rfl)
theorem callQ_bool {cx : Cx} {f : FuncId} {args : List SV} {H : Heap} {S : Asn} {nx : Nat} {K : SV → Prop} (hf : ∀ as w, (callFunc f as).run cx.P w = .ok (.enter f as) w) (b : Bool)
    (hc : ∀ ρ w, Abs cx.B ρ nx H S w → Calls cx.P f (SV.rfs ρ args).toArray w (fun e w' => e = .returned (.bool b) ∧ Ext w w')) (h1 : b = true → K (.c (.bool true))) (h2 : b = false → K (.c (.bool false))) : callQ cx f args H S nx K := by
  cases b with
  | true => exact callQ_of hf _ hc (h1 rfl)
  | false => exact callQ_of hf _ hc (h2 rfl)

/-- a slice held against nil -/
theorem slice_nil_eql {P : Program} {t : TypeId} {ti : TI} (h : mkTI P t = some ti) (hk : ti.kind = 1) {ox oy : Operand} {base : Option Addr} {len cap : Nat} {K : SV → Prop} (hK : K (.c (.bool base.isNone))) :
    pureK P (do eqGuard .eql t ox oy (.slice base len cap) (.slice none 0 0); binOp .eql t (.slice base len cap) (.slice none 0 0)) K := by
  rw [pureK_def]
  obtain ⟨i, d, z, hi, hd, hz, rfl⟩ := mkTI_spec h
  simp only at hk
  have hs : ∃ e, d = .slice e := by cases d <;> first | exact ⟨_, rfl⟩ | (simp [kindOf] at hk)
  obtain ⟨e, rfl⟩ := hs
  refine ⟨.bool base.isNone, fun w => ?_, hK⟩
  have h1 : (eqGuard .eql t ox oy (.slice base len cap) (.slice none 0 0)).run P w = .ok () w := by unfold eqGuard; simp
  have h2 : (Op.equal t (.slice base len cap) (.slice none 0 0)).run P w = .ok base.isNone w := by
    unfold Op.equal
    rw [show Op.maxDepth = Nat.succ 9999 from rfl]
    unfold Op.equalIn
    simp only [Sem.run_bind, run_underlying hd, Result.andThen_ok]
    cases base <;> rfl
  simp only [Sem.run_bind, h1, Result.andThen_ok, binOp, h2, Sem.run_pure]

theorem newRows_data {w w' : World} {v : Value} {k : Nat} {T : TypeId} {xs : List (List Value)} (h : NewRows w w' v k T xs) : (rowsV v k xs).holds (fun b => w.heap.size ≤ b ∧ b < w'.heap.size) w' := by
  obtain ⟨l, rfl, F, hF, hr, hcap, hent⟩ := h
  refine ⟨l.base, l.cap, rfl, hr, ?_⟩
  rcases hent with ⟨h1, h2, _⟩ | ⟨b, off, c, h1, h2, h3, h4, h5⟩
  · exact .inl (List.eq_nil_of_length_eq_zero (by omega))
  · refine .inr ⟨b, off, h1, ⟨hF b ((h2 b).2 rfl), lt_size_of_some h3⟩, fun i r hi j v hj => ?_⟩
    have := h5 i r hi j v hj
    rw [← Nat.add_assoc]
    simpa [World.cell?, h3] using this
theorem Asn.mono (S : Asn) {R R' : Nat → Prop} {w : World} (h : S.holds R w) (hR : ∀ b, R b → R' b) : S.holds R' w := S.stable hR (fun _ _ => rfl) h

/-- rows at hand: one's own slice as a caller sees it -/
theorem rows_of_abs {B : Base} {ρ : Nat → Loc} {nx : Nat} {H : Heap} {S : Asn} {w : World} {i : Nat} {xs : List (List Value)} {k : Nat} {T : TypeId} (h : Abs B ρ nx H S w) (he : (i, Ent.rows xs k T) ∈ H) : RowsI w (ρ i).base k xs := by
  obtain ⟨R, φ, h⟩ := h
  obtain ⟨hr, hcap, hent⟩ := h.ent _ he
  simp only at hcap hent
  rcases hent with ⟨h1, h2, _⟩ | ⟨b, off, c, h1, h2, h3, h4, h5⟩
  · exact .inl (List.eq_nil_of_length_eq_zero (by omega))
  · refine .inr ⟨_, h1, fun m r hm j v hj => ?_⟩
    have := h5 m r hm j v hj
    rw [add_none, ← Nat.add_assoc]
    simpa [World.cell?, h3] using this
theorem holds_of_abs {B : Base} {ρ : Nat → Loc} {nx : Nat} {H : Heap} {S : Asn} {w : World} {p : Prop} (h : Abs B ρ nx H S w) (hp : ∀ R, S.holds R w → p) : p := by
  obtain ⟨R, φ, h⟩ := h; exact hp R h.asn
theorem rowsV_in {v : Value} {k : Nat} {xs : List (List Value)} {R : Nat → Prop} {w : World} (h : (rowsV v k xs).holds R w) : ∃ base cap, v = .slice base xs.length cap ∧ RowsI w base k xs := by
  obtain ⟨base, cap, h1, h2⟩ := h
  exact ⟨base, cap, h1, rowsA_in h2⟩
end Go.SX
