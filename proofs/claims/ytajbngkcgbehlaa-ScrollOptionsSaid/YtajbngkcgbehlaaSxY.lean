import Derived.Test.YtajbngkcgbehlaaSxX
namespace Go.SX
open Go.RowKit

/-! ### Calls that write into one box of the caller's -/
/-- the blocks that were there, but for one -/
def oth (w : World) (b : Nat) : Nat → Prop := fun x => x < w.heap.size ∧ x ≠ b
/-- all but one block stand as they did -/
def restA (w0 : World) (b : Nat) : Asn where
  holds R w := ∀ x, oth w0 b x → R x ∧ w.heap[x]? = w0.heap[x]?
  stable := fun hR hw h x hx => ⟨hR x (h x hx).1, (hw x (h x hx).1).trans (h x hx).2⟩
theorem rest_holds {w w' : World} {b : Nat} {R : Nat → Prop} {D : Asn} (h : D.holds (oth w b) w) (hr : (restA w b).holds R w') : D.holds R w' :=
  D.stable (fun x hx => (hr x hx).1) (fun x hx => (hr x hx).2) h
def boxL (b : Nat) : Loc := ⟨some ⟨b, 0, none⟩, 0⟩
/-- a function's beginning, with one box of its caller's -/
theorem abs_box {w : World} {b : Nat} {cells : List Value} {T : TypeId} (hb : w.heap[b]? = some (.cells cells.toArray T (0, 0))) :
    Abs ⟨w, [(0, boxL b)]⟩ (fun _ => boxL b) 1 [(0, .box (cs cells) T)] (restA w b) w := by
  refine ⟨oth w b, fun _ x => x = b, rfl, rfl, rfl, Nat.le_refl _, ?_, fun x hx => hx.1, fun x hx => ⟨hx, rfl⟩, ?_, ?_, ?_, ?_⟩
  · intro p hp; simp at hp; subst hp; exact ⟨Nat.lt_succ_self _, rfl⟩
  · intro p hp; simp at hp; subst hp; exact ⟨Nat.lt_succ_self _, fun i hi => absurd hi (by have := lts_cs 0 cells i; intro h; exact absurd (this h) (Nat.not_lt_zero _))⟩
  · intro p hp; simp at hp; subst hp; exact ⟨b, rfl, fun _ => Iff.rfl, by rw [rfs_cs]; exact hb⟩
  · intro p hp x hx hR; exact hR.2 hx
  · exact List.pairwise_singleton _ _
/-- at its end -/
theorem box_end {w w' : World} {b : Nat} {ρ : Nat → Loc} {nx : Nat} {H : Heap} {S : Asn} {cells : List Value} {T : TypeId} (hw : Abs ⟨w, [(0, boxL b)]⟩ ρ nx H S w') (hS : ∀ R w', S.holds R w' → (restA w b).holds R w') (he : (0, Ent.box (cs cells) T) ∈ H) :
    Step (fun y => y = b) w w' ∧ w'.heap[b]? = some (.cells cells.toArray T (0, 0)) := by
  obtain ⟨R, φ, hw⟩ := hw
  have hp := (hw.pin (0, boxL b) List.mem_cons_self).2
  obtain ⟨b', h1, h2, h3⟩ := hw.ent _ he
  simp only at hp h1
  rw [hp] at h1
  obtain rfl : b = b' := by simpa [boxL] using h1
  rw [rfs_cs] at h3
  exact ⟨⟨hw.os, hw.tape, hw.output, hw.size, fun x hx hne => (hS R w' hw.asn x ⟨hx, hne⟩).2⟩, h3⟩
/-- data in blocks beyond those that were there -/
theorem box_new {w w' : World} {b : Nat} {ρ : Nat → Loc} {nx : Nat} {H : Heap} {S D : Asn} (hw : Abs ⟨w, [(0, boxL b)]⟩ ρ nx H S w') (hD : ∀ R w', S.holds R w' → (D.past w.heap.size).holds R w') : D.holds (fun y => w.heap.size ≤ y ∧ y < w'.heap.size) w' := past_new hw hD

/-- what such a call leaves -/
def BoxPost {α : Type} (w : World) (b : Nat) (T : TypeId) (val : α → Value) (cells : α → List Value) (D : α → Asn) (p : α → Prop) (e : Ending) (w' : World) : Prop :=
  ∃ x, p x ∧ e = .returned (val x) ∧ Step (fun y => y = b) w w' ∧ w'.heap[b]? = some (.cells (cells x).toArray T (0, 0)) ∧ (D x).holds (fun y => w.heap.size ≤ y ∧ y < w'.heap.size) w'
theorem call_box {cx : Cx} {f : FuncId} {args : List SV} {H : Heap} {S : Asn} {nx i : Nat} {K : SV → Heap → Asn → Nat → Prop} {cells : List SV} {T : TypeId} (hi : (i, Ent.box cells T) ∈ H) (hf : ∀ ar w, (callFunc f ar).run cx.P w = .ok (.enter f ar) w) {α : Type} (val : α → Value) (cells' : α → List Value) (D : α → Asn) (p : α → Prop)
    (hc : ∀ R ρ w b, Abs cx.B ρ nx H S w → S.holds R w → (∀ x, R x → oth w b x) → (ρ i).base = some ⟨b, 0, none⟩ → w.heap[b]? = some (.cells (SV.rfs ρ cells).toArray T (0, 0)) → Calls cx.P f (SV.rfs ρ args).toArray w (BoxPost w b T val cells' D p))
    (h : ∀ x, p x → K (.c (val x)) (setH i (.box (cs (cells' x)) T) H) (S.and ((D x).past cx.B.w0.heap.size)) nx) : callK cx f args H S nx K := by
  rw [callK_def]
  refine ⟨hf, fun ρ w hw => ?_⟩
  have hw0 := hw
  obtain ⟨R, φ, hwR⟩ := hw
  obtain ⟨b, h1, h2, h3⟩ := hwR.ent _ hi
  simp only at h1 h2
  refine (hc R ρ w b hw0 hwR.asn (fun x hx => ⟨hwR.ro x hx, fun e => hwR.apart _ hi x ((h2 x).2 e) hx⟩) h1 h3).mono ?_
  rintro e w' ⟨x, hp, rfl, hs, hb, hD⟩
  have hlt : (Ent.box (cs (cells' x)) T).lt nx := fun y hy => lts_cs nx _ y hy
  have h' := hwR.store hi hlt (w' := w') fun F hF => by
    obtain ⟨b', g1, g2, g3⟩ := hF
    obtain rfl : b = b' := by rw [h1] at g1; simpa using g1
    exact ⟨⟨hs.os, hs.tape, hs.output, hs.size, fun y hy hne => hs.block y hy fun e => hne ((g2 y).2 e)⟩, b, g1, g2, by rw [rfs_cs]; exact hb⟩
  refine ⟨.c (val x), ρ, _, _, nx, rfl, fun _ _ => rfl, Nat.le_refl _, SV.lt_c _, ?_, h x hp⟩
  refine ⟨fun y => R y ∨ (w.heap.size ≤ y ∧ y < w'.heap.size), φ, h'.os, h'.tape, h'.output, h'.size, h'.pin, fun y hy => hy.elim (h'.ro y) (fun h => h.2), ⟨S.stable (fun _ h => .inl h) (fun _ _ => rfl) h'.asn, ?_⟩, h'.key, h'.ent, fun q hq y hy hy' => ?_, h'.sep⟩
  · exact (D x).stable (fun y hy => ⟨.inr hy, Nat.le_trans hwR.size hy.1⟩) (fun _ _ => rfl) hD
  · rcases hy' with hy' | hy'
    · exact h'.apart q hq y hy hy'
    · have hk : q.1 ∈ H.map (·.1) := by rw [← keys_setH i (.box (cs (cells' x)) T) H]; exact List.mem_map.2 ⟨q, hq, rfl⟩
      obtain ⟨q', hq', e⟩ := List.mem_map.1 hk
      rw [← e] at hy
      have := Ent.size (hwR.ent q' hq') hy
      omega
end Go.SX
