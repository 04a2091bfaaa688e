import Derived.Test.YtajbngkcgbehlaaSxW
import Derived.LoopN
namespace Go.SX
open Go.RowKit

/-- so many rounds of a loop at the most -/
def RoundsK (cx : Cx) (body : Code) (K : Exit → Env → Heap → Asn → Nat → Prop) : Nat → Env → Heap → Asn → Nat → Prop
  | 0, _, _, _, _ => False
  | n + 1, env, H, S, nx => Wp cx body env H S nx (fun e env' H' S' nx' => match e with
      | .normal => RoundsK cx body K n env' H' S' nx'
      | e => K e env' H' S' nx')
theorem Wp.rounds {cx : Cx} {body : Code} {env : Env} {H : Heap} {S : Asn} {nx : Nat} {K : Exit → Env → Heap → Asn → Nat → Prop} (n : Nat) (h : RoundsK cx body K n env H S nx) : Wp cx (.loop body) env H S nx K := by
  refine ⟨fun ρ a w hs hw => wp_loop_rounds n ?_⟩
  have key : ∀ (n : Nat) {env : Env} {H : Heap} {S : Asn} {nx1 : Nat} {ρ1 : Nat → Loc} {a : Act} {w : World}, RoundsK cx body K n env H S nx1 → (∀ i, i < nx → ρ1 i = ρ i) → nx ≤ nx1 → Sat cx.n ρ1 nx1 env a → Abs cx.B ρ1 nx1 H S w →
      Code.rounds cx.P body (fun e a' w' => ∃ ρ' env' H' S' nx', (∀ i, i < nx → ρ' i = ρ i) ∧ nx ≤ nx' ∧ Sat cx.n ρ' nx' env' a' ∧ Abs cx.B ρ' nx' H' S' w' ∧ K e env' H' S' nx') n a w := by
    intro n
    induction n with
    | zero => intro env H S nx1 ρ1 a w h; exact h.elim
    | succ n ih =>
      intro env H S nx1 ρ1 a w h hr hn hs hw
      rw [rounds_succ]
      have h' : Wp cx body env H S nx1 (fun e env' H' S' nx' => match e with
        | .normal => RoundsK cx body K n env' H' S' nx'
        | e => K e env' H' S' nx') := h
      refine wp_mono (h'.out ρ1 a w hs hw) ?_
      rintro e a' w' ⟨ρ', env', H', S', nx', h1, h2, h3, h4, h5⟩
      have hr' : ∀ i, i < nx → ρ' i = ρ i := fun i hi => (h1 i (Nat.lt_of_lt_of_le hi hn)).trans (hr i hi)
      cases e with
      | normal => exact ih h5 hr' (Nat.le_trans hn h2) h3 h4
      | _ => exact ⟨ρ', env', H', S', nx', hr', Nat.le_trans hn h2, h3, h4, h5⟩
  exact key n h (fun _ _ => rfl) (Nat.le_refl _) hs hw
/-- a fact that holds in every world at hand -/
theorem Wp.know {cx : Cx} {c : Code} {env : Env} {H : Heap} {S : Asn} {nx : Nat} {K : Exit → Env → Heap → Asn → Nat → Prop} {p : Prop} (h1 : ∀ ρ w, Abs cx.B ρ nx H S w → p) (h2 : p → Wp cx c env H S nx K) : Wp cx c env H S nx K :=
  ⟨fun ρ a w hs hw => (h2 (h1 ρ w hw)).out ρ a w hs hw⟩

theorem idx_z {base : Option Addr} {len size : Nat} {z : Int} {K : SV → Prop} {a : Addr} (hb : base = some a) (h0 : 0 ≤ z) (h1 : z < len) (h : K (.c (.pointer (some (a.add (z.toNat * size)))))) : idxK base len size z K := by
  rw [idxK_def]; exact ⟨a, hb, h0, h1, h⟩
theorem ro_int {a : Addr} {j : Nat} {S : Asn} {xs : List Int} {K : SV → Prop} (hx : ∀ R w, S.holds R w → RowsI w (some a) 1 (ints xs)) (hj : j < xs.length) (h : K (.c (.int .i64 (xs.getD j 0)))) : roK (a.add (j * 1)) S K :=
  ro_row0 hx [.int .i64 (xs.getD j 0)] (.int .i64 (xs.getD j 0)) (by rw [ints_get hj]; simp [List.getD, hj]) rfl h
theorem slice_full {base : Option Addr} {len cap size : Nat} {K : SV → Prop} (hc : len ≤ cap) (h : K (.c (.slice base len len))) : sliceK base len cap size none (some (len : Int)) (some (len : Int)) K := by
  rw [sliceK_def]
  refine ⟨0, len, len, rfl, rfl, rfl, Nat.zero_le _, Nat.le_refl _, hc, fun _ => rfl, ?_⟩
  have : (if len = 0 then base else base.map (·.add (0 * size))) = base := by
    split
    · rfl
    · cases base <;> simp [Addr.add]
  have e : len - 0 = len := Nat.sub_zero len
  rw [this, e]
  exact h
theorem Abs.grow {B : Base} {ρ : Nat → Loc} {nx : Nat} {H : Heap} {S : Asn} {w w' : World} {D : Asn} (hw : Abs B ρ nx H S w) (he : Ext w w') (hD : D.holds (fun b => w.heap.size ≤ b ∧ b < w'.heap.size) w') : Abs B ρ nx H (S.and (D.past B.w0.heap.size)) w' := by
  obtain ⟨R, φ, hwR⟩ := hw
  have hwR' := hwR.step (Step.of_ext he) (fun _ _ h => h) (fun _ _ _ _ h => h)
  refine ⟨fun b => R b ∨ (w.heap.size ≤ b ∧ b < w'.heap.size), φ, hwR'.os, hwR'.tape, hwR'.output, hwR'.size, hwR'.pin, fun b hb => hb.elim (hwR'.ro b) (fun h => h.2), ⟨S.stable (fun _ h => .inl h) (fun _ _ => rfl) hwR'.asn, ?_⟩, hwR'.key, hwR'.ent, fun p hp b hb hb' => ?_, hwR'.sep⟩
  · exact D.stable (fun b hb => ⟨.inr hb, Nat.le_trans hwR.size hb.1⟩) (fun _ _ => rfl) hD
  · rcases hb' with hb' | hb'
    · exact hwR'.apart p hp b hb hb'
    · have := Ent.size (hwR.ent p hp) hb; omega
/-- a call that hands back data in new memory, which stay -/
theorem call_past {cx : Cx} {f : FuncId} {args : List SV} {H : Heap} {S : Asn} {nx : Nat} {K : SV → Heap → Asn → Nat → Prop} (hf : ∀ ar w, (callFunc f ar).run cx.P w = .ok (.enter f ar) w) {α : Type} (val : α → Value) (D : α → Asn) (p : α → Prop)
    (hc : ∀ ρ w, Abs cx.B ρ nx H S w → Calls cx.P f (SV.rfs ρ args).toArray w (fun e w' => ∃ x, p x ∧ e = .returned (val x) ∧ Ext w w' ∧ (D x).holds (fun b => w.heap.size ≤ b ∧ b < w'.heap.size) w'))
    (h : ∀ x, p x → K (.c (val x)) H (S.and ((D x).past cx.B.w0.heap.size)) nx) : callK cx f args H S nx K := by
  rw [callK_def]
  refine ⟨hf, fun ρ w hw => (hc ρ w hw).mono ?_⟩
  rintro e w' ⟨x, hp, rfl, he, hD⟩
  exact ⟨.c (val x), ρ, H, _, nx, rfl, fun _ _ => rfl, Nat.le_refl _, SV.lt_c _, hw.grow he hD, h x hp⟩
/-- at the end: data of blocks from N on lie in new blocks -/
theorem past_new {B : Base} {ρ : Nat → Loc} {nx : Nat} {H : Heap} {S D : Asn} {w : World} (hw : Abs B ρ nx H S w) (hS : ∀ R w', S.holds R w' → (D.past B.w0.heap.size).holds R w') : D.holds (fun b => B.w0.heap.size ≤ b ∧ b < w.heap.size) w := by
  obtain ⟨R, φ, hw⟩ := hw
  exact D.stable (fun b hb => ⟨hb.2, hw.ro b hb.1⟩) (fun _ _ => rfl) (hS R w hw.asn)
theorem sub_sublist {α : Type} {l : List α} : l.Sublist l := List.Sublist.refl l
end Go.SX
