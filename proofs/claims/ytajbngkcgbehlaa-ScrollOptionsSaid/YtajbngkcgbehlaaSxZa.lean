import Derived.Test.YtajbngkcgbehlaaSxZ
namespace Go.SX
open Go.RowKit

/-! ### A slice in a box, handed on by its box: functions that write it, and may give it new room -/
/-- the blocks that were there, but for some -/
def othF (w : World) (F : Nat → Prop) : Nat → Prop := fun x => x < w.heap.size ∧ ¬ F x
/-- all but some blocks stand as they did -/
def restF (w0 : World) (F : Nat → Prop) : Asn where
  holds R w := ∀ x, othF w0 F x → R x ∧ w.heap[x]? = w0.heap[x]?
  stable := fun hR hw h x hx => ⟨hR x (h x hx).1, (hw x (h x hx).1).trans (h x hx).2⟩

/-- at block b: a slice; its rows; F: the blocks of both -/
def SliceAt (T TE : TypeId) (k : Nat) (xs : List (List Value)) (b : Nat) (F : Nat → Prop) (w : World) : Prop :=
  ∃ (v : Loc) (G : Nat → Prop), w.heap[b]? = some (.cells #[.slice v.base xs.length v.cap] T (0, 0)) ∧ (∀ x, F x ↔ x = b ∨ G x) ∧ ¬ G b ∧ (Ent.rows xs k TE).holds (fun _ => v) v G w
theorem SliceAt.stable {T TE : TypeId} {k : Nat} {xs : List (List Value)} {b : Nat} {F : Nat → Prop} {w w' : World} (hf : ∀ x, F x → w'.heap[x]? = w.heap[x]?) (h : SliceAt T TE k xs b F w) : SliceAt T TE k xs b F w' := by
  obtain ⟨v, G, h1, h2, h3, h4⟩ := h
  exact ⟨v, G, by rw [hf b ((h2 b).2 (.inl rfl))]; exact h1, h2, h3, Ent.stable (fun x hx => hf x ((h2 x).2 (.inr hx))) h4⟩
theorem SliceAt.size {T TE : TypeId} {k : Nat} {xs : List (List Value)} {b : Nat} {F : Nat → Prop} {w : World} (h : SliceAt T TE k xs b F w) {x : Nat} (hx : F x) : x < w.heap.size := by
  obtain ⟨v, G, h1, h2, h3, h4⟩ := h
  rcases (h2 x).1 hx with rfl | hx
  · exact lt_size_of_some h1
  · exact Ent.size h4 hx
def sliceO (T TE : TypeId) (k : Nat) (xs : List (List Value)) : Own where
  holds l F w := ∃ b, l.base = some ⟨b, 0, none⟩ ∧ SliceAt T TE k xs b F w
  stable := fun hf ⟨b, h1, h2⟩ => ⟨b, h1, h2.stable hf⟩
  lt := fun ⟨_, _, h⟩ hx => h.size hx

/-- what a call leaves that was handed such a slice -/
def SlicePost {α : Type} (w : World) (b : Nat) (F : Nat → Prop) (T TE : TypeId) (k : Nat) (val : α → Value) (rows : α → List (List Value)) (p : α → Prop) (e : Ending) (w' : World) : Prop :=
  ∃ x, p x ∧ e = .returned (val x) ∧ Step F w w' ∧ ∃ F' : Nat → Prop, (∀ y, F' y → F y ∨ w.heap.size ≤ y) ∧ SliceAt T TE k (rows x) b F' w'

/-- an entry written, its blocks among its own and new ones -/
theorem AbsR.move {B : Base} {R : Nat → Prop} {φ : Nat → Nat → Prop} {ρ : Nat → Loc} {nx : Nat} {H : Heap} {S : Asn} {w w' : World} {i : Nat} {e e' : Ent} (h : AbsR B R φ ρ nx H S w) (hi : (i, e) ∈ H) (hlt : e'.lt nx) {F' : Nat → Prop}
    (hs : Step (φ i) w w') (hF : ∀ y, F' y → φ i y ∨ w.heap.size ≤ y) (he' : e'.holds ρ (ρ i) F' w') : AbsR B R (fun j => if j = i then F' else φ j) ρ nx (setH i e' H) S w' := by
  have hR : ∀ b, R b → ¬ φ i b := fun b hb hb' => h.apart _ hi b hb' hb
  have hk : ((setH i e' H).map (·.1)).Pairwise (· ≠ ·) := by rw [keys_setH]; exact List.pairwise_map.2 (h.sep.imp fun x => x.1)
  have hk' : (setH i e' H).Pairwise fun p q => p.1 ≠ q.1 ∧ True := (List.pairwise_map.1 hk).imp fun x => ⟨x, trivial⟩
  have mem : ∀ p ∈ setH i e' H, p = (i, e') ∨ (p.1 ≠ i ∧ p ∈ H) := by
    intro p hp
    obtain ⟨pi, pe⟩ := p
    by_cases hpi : pi = i
    · subst hpi
      have : pe = e' := keys_unique hk' hp (mem_setH_self hi)
      subst this
      exact .inl rfl
    · rcases mem_setH hp with ⟨h1, _⟩ | h1
      · exact absurd (by simpa using congrArg Prod.fst h1) hpi
      · exact .inr ⟨hpi, h1⟩
  refine ⟨hs.os.trans h.os, hs.tape.trans h.tape, hs.output.trans h.output, Nat.le_trans h.size hs.size, h.pin, fun b hb => Nat.lt_of_lt_of_le (h.ro b hb) hs.size,
    S.stable (fun _ hb => hb) (fun b hb => hs.block b (h.ro b hb) (hR b hb)) h.asn, ?_, ?_, ?_, ?_⟩
  · intro p hp
    rcases mem p hp with rfl | ⟨_, hp⟩
    · exact ⟨(h.key _ hi).1, hlt⟩
    · exact h.key p hp
  · intro p hp
    rcases mem p hp with rfl | ⟨hne, hp⟩
    · simp only [if_true]; exact he'
    · simp only [if_neg hne]
      exact Ent.stable (fun b hb => hs.block b (Ent.size (h.ent p hp) hb) (sep_two h.sep hp hi hne b hb)) (h.ent p hp)
  · intro p hp b hb
    rcases mem p hp with rfl | ⟨hne, hp⟩
    · simp only [if_true] at hb
      rcases hF b hb with hb | hb
      · exact h.apart _ hi b hb
      · intro hRb; have := h.ro b hRb; omega
    · simp only [if_neg hne] at hb
      exact h.apart p hp b hb
  · refine List.Pairwise.imp_of_mem (R := fun p q => p.1 ≠ q.1) (fun {p q} hp hq hpq => ⟨hpq, fun b hb hb' => ?_⟩) (List.pairwise_map.1 hk)
    rcases mem p hp with rfl | ⟨hpn, hp⟩ <;> rcases mem q hq with rfl | ⟨hqn, hq⟩
    · exact hpq rfl
    · simp only [if_true, if_neg hqn] at hb hb'
      rcases hF b hb with hb | hb
      · exact sep_two h.sep hi hq hpq b hb hb'
      · have := Ent.size (h.ent q hq) hb'; omega
    · simp only [if_true, if_neg hpn] at hb hb'
      rcases hF b hb' with hb' | hb'
      · exact sep_two h.sep hp hi hpq b hb hb'
      · have := Ent.size (h.ent p hp) hb; omega
    · simp only [if_neg hpn, if_neg hqn] at hb hb'
      exact sep_two h.sep hp hq hpq b hb hb'

/-- A CALL THAT IS HANDED SUCH A SLICE -/
theorem call_slice {cx : Cx} {f : FuncId} {args : List SV} {H : Heap} {S : Asn} {nx i : Nat} {K : SV → Heap → Asn → Nat → Prop} {T TE : TypeId} {k : Nat} {xs : List (List Value)} (hi : (i, Ent.ext (sliceO T TE k xs)) ∈ H)
    (hf : ∀ ar w, (callFunc f ar).run cx.P w = .ok (.enter f ar) w) {α : Type} (val : α → Value) (rows : α → List (List Value)) (p : α → Prop)
    (hc : ∀ ρ w b F, Abs cx.B ρ nx H S w → (∀ j cells T', (j, Ent.box cells T') ∈ H → j ≠ i → ∃ c, (ρ j).base = some ⟨c, 0, none⟩ ∧ w.heap[c]? = some (.cells (SV.rfs ρ cells).toArray T' (0, 0)) ∧ ¬ F c) →
      (ρ i).base = some ⟨b, 0, none⟩ → SliceAt T TE k xs b F w → Calls cx.P f (SV.rfs ρ args).toArray w (SlicePost w b F T TE k val rows p))
    (h : ∀ x, p x → K (.c (val x)) (setH i (.ext (sliceO T TE k (rows x))) H) S nx) : callK cx f args H S nx K := by
  rw [callK_def]
  refine ⟨hf, fun ρ w hw => ?_⟩
  have hw0 := hw
  obtain ⟨R, φ, hwR⟩ := hw
  obtain ⟨b, h1, h2⟩ := hwR.ent _ hi
  refine (hc ρ w b (φ i) hw0 (fun j cells T' hj hne => ?_) h1 h2).mono ?_
  · obtain ⟨c, g1, g2, g3⟩ := hwR.ent _ hj
    exact ⟨c, g1, g3, fun hFc => sep_two hwR.sep hj hi hne c ((g2 c).2 rfl) hFc⟩
  · rintro e w' ⟨x, hp, rfl, hs, F', hF, hsl⟩
    have h' := hwR.move hi (e' := .ext (sliceO T TE k (rows x))) (fun y hy => by simp [Ent.hass] at hy) hs hF ⟨b, h1, hsl⟩
    exact ⟨.c (val x), ρ, _, _, nx, rfl, fun _ _ => rfl, Nat.le_refl _, SV.lt_c _, ⟨R, _, h'⟩, h x hp⟩

/-! A function's beginning and end, with such a slice: looked into -/
theorem abs_slice {T TE : TypeId} {k : Nat} {xs : List (List Value)} {b : Nat} {F : Nat → Prop} {w : World} (h : SliceAt T TE k xs b F w) :
    ∃ v : Loc, Abs ⟨w, [(0, boxL b)]⟩ (fun i => if i = 0 then boxL b else v) 2 [(0, .box [.os 1 xs.length] T), (1, .rows xs k TE)] (restF w F) w := by
  obtain ⟨v, G, h1, h2, h3, h4⟩ := h
  refine ⟨v, othF w F, fun i x => if i = 0 then x = b else G x, rfl, rfl, rfl, Nat.le_refl _, ?_, fun x hx => hx.1, fun x hx => ⟨hx, rfl⟩, ?_, ?_, ?_, ?_⟩
  · intro p hp; simp at hp; subst hp; exact ⟨(show (0:Nat) < 2 by decide), rfl⟩
  · intro p hp
    simp at hp
    rcases hp with rfl | rfl
    · exact ⟨(show (0:Nat) < 2 by decide), fun i hi => by simp [Ent.hass, SV.hass, SV.has] at hi; show i < 2; omega⟩
    · exact ⟨(show (1:Nat) < 2 by decide), fun i hi => by simp [Ent.hass] at hi⟩
  · intro p hp
    simp at hp
    rcases hp with rfl | rfl
    · exact ⟨b, rfl, fun _ => Iff.rfl, by simpa [SV.rfs, SV.rf] using h1⟩
    · exact h4
  · intro p hp x hx hR
    simp at hp
    rcases hp with rfl | rfl
    · exact hR.2 ((h2 x).2 (.inl hx))
    · exact hR.2 ((h2 x).2 (.inr hx))
  · refine List.pairwise_cons.2 ⟨fun p hp => ?_, List.pairwise_singleton _ _⟩
    simp at hp
    subst hp
    exact ⟨(show (0:Nat) ≠ 1 by decide), fun x hx hx' => h3 (by simp at hx hx'; subst hx; exact hx')⟩
theorem rows_take {TE : TypeId} {k : Nat} {xs : List (List Value)} {ρ ρ' : Nat → Loc} {l : Loc} {G : Nat → Prop} {w : World} (n : Nat) (h : (Ent.rows xs k TE).holds ρ l G w) : (Ent.rows (xs.take n) k TE).holds ρ' l G w := by
  obtain ⟨h1, h2, h3⟩ := h
  refine ⟨fun r hr => h1 r (List.mem_of_mem_take hr), by simp; omega, ?_⟩
  rcases h3 with h3 | ⟨b, off, c, g1, g2, g3, g4, g5⟩
  · exact .inl h3
  · refine .inr ⟨b, off, c, g1, g2, g3, g4, fun i r hi => g5 i r ?_⟩
    rw [List.getElem?_take] at hi
    split at hi
    · exact hi
    · cases hi
theorem slice_end {T TE : TypeId} {k n j : Nat} {xs : List (List Value)} {b : Nat} {F : Nat → Prop} {w w' : World} {ρ : Nat → Loc} {nx : Nat} {H : Heap} {S : Asn} (hw : Abs ⟨w, [(0, boxL b)]⟩ ρ nx H S w') (hS : ∀ R w', S.holds R w' → (restF w F).holds R w')
    (h0 : (0, Ent.box [.os j n] T) ∈ H) (hj : (j, Ent.rows xs k TE) ∈ H) (hne : j ≠ 0) (hn : n ≤ xs.length) (hFb : F b) : Step F w w' ∧ ∃ F' : Nat → Prop, (∀ y, F' y → F y ∨ w.heap.size ≤ y) ∧ SliceAt T TE k (xs.take n) b F' w' := by
  obtain ⟨R, φ, hw⟩ := hw
  have hp := (hw.pin (0, boxL b) List.mem_cons_self).2
  obtain ⟨b', h1, h2, h3⟩ := hw.ent _ h0
  simp only at hp h1
  rw [hp] at h1
  obtain rfl : b = b' := by simpa [boxL] using h1
  have hrest := hS R w' hw.asn
  refine ⟨⟨hw.os, hw.tape, hw.output, hw.size, fun x hx hne => (hrest x ⟨hx, hne⟩).2⟩, fun x => x = b ∨ φ j x, ?_, ρ j, φ j, ?_, fun _ => Iff.rfl, ?_, rows_take n (hw.ent _ hj)⟩
  · rintro y (rfl | hy)
    · exact .inl hFb
    · rcases Nat.lt_or_ge y w.heap.size with hl | hl
      · by_cases hFy : F y
        · exact .inl hFy
        · exact absurd (hrest y ⟨hl, hFy⟩).1 (hw.apart _ hj y hy)
      · exact .inr hl
  · have : (xs.take n).length = n := by simp; omega
    rw [this]; simpa [SV.rfs, SV.rf] using h3
  · intro hG
    exact sep_two hw.sep hj h0 hne b hG ((h2 b).2 rfl)
theorem SliceAt.at {T TE : TypeId} {k : Nat} {xs : List (List Value)} {b : Nat} {F : Nat → Prop} {w : World} (h : SliceAt T TE k xs b F w) : F b := by
  obtain ⟨v, G, h1, h2, h3, h4⟩ := h
  exact (h2 b).2 (.inl rfl)
/-! likewise: not looked into -/
theorem abs_ext {T TE : TypeId} {k : Nat} {xs : List (List Value)} {b : Nat} {F : Nat → Prop} {w : World} (h : SliceAt T TE k xs b F w) :
    Abs ⟨w, [(0, boxL b)]⟩ (fun _ => boxL b) 1 [(0, .ext (sliceO T TE k xs))] (restF w F) w := by
  refine ⟨othF w F, fun _ => F, rfl, rfl, rfl, Nat.le_refl _, ?_, fun x hx => hx.1, fun x hx => ⟨hx, rfl⟩, ?_, ?_, ?_, ?_⟩
  · intro p hp; simp at hp; subst hp; exact ⟨Nat.lt_succ_self _, rfl⟩
  · intro p hp; simp at hp; subst hp; exact ⟨Nat.lt_succ_self _, fun i hi => by simp [Ent.hass] at hi⟩
  · intro p hp; simp at hp; subst hp; exact ⟨b, rfl, h⟩
  · intro p hp x hx hR; exact hR.2 hx
  · exact List.pairwise_singleton _ _
theorem ext_end {T TE : TypeId} {k i : Nat} {xs : List (List Value)} {b : Nat} {F : Nat → Prop} {w w' : World} {ρ : Nat → Loc} {nx : Nat} {H : Heap} {S : Asn} {pins : List (Nat × Loc)} (hw : Abs ⟨w, pins⟩ ρ nx H S w') (hpin : (i, boxL b) ∈ pins) (hS : ∀ R w', S.holds R w' → (restF w F).holds R w')
    (h0 : (i, Ent.ext (sliceO T TE k xs)) ∈ H) : Step F w w' ∧ ∃ F' : Nat → Prop, (∀ y, F' y → F y ∨ w.heap.size ≤ y) ∧ SliceAt T TE k xs b F' w' := by
  obtain ⟨R, φ, hw⟩ := hw
  have hp := (hw.pin (i, boxL b) hpin).2
  obtain ⟨b', h1, h2⟩ := hw.ent _ h0
  simp only at hp h1
  rw [hp] at h1
  obtain rfl : b = b' := by simpa [boxL] using h1
  have hrest := hS R w' hw.asn
  refine ⟨⟨hw.os, hw.tape, hw.output, hw.size, fun x hx hne => (hrest x ⟨hx, hne⟩).2⟩, φ i, fun y hy => ?_, h2⟩
  rcases Nat.lt_or_ge y w.heap.size with hl | hl
  · by_cases hFy : F y
    · exact .inl hFy
    · exact absurd (hrest y ⟨hl, hFy⟩).1 (hw.apart _ h0 y hy)
  · exact .inr hl
/-! a closure that has the box of an interface over such a slice -/
theorem abs_cap {T TE T' t : TypeId} {k : Nat} {xs : List (List Value)} {b c : Nat} {F : Nat → Prop} {w : World} (h : SliceAt T TE k xs b F w) (hc : w.heap[c]? = some (.cells #[.iface t (.pointer (some ⟨b, 0, none⟩))] T' (0, 0))) (hn : ¬ F c) :
    Abs ⟨w, [(0, boxL b), (1, boxL c)]⟩ (fun i => if i = 0 then boxL b else boxL c) 2 [(0, .ext (sliceO T TE k xs)), (1, .box [.ifc t (.lp 0 0 0 0)] T')] (restF w (fun x => F x ∨ x = c)) w := by
  refine ⟨othF w (fun x => F x ∨ x = c), fun i x => if i = 0 then F x else x = c, rfl, rfl, rfl, Nat.le_refl _, ?_, fun x hx => hx.1, fun x hx => ⟨hx, rfl⟩, ?_, ?_, ?_, ?_⟩
  · intro p hp; simp at hp; rcases hp with rfl | rfl
    · exact ⟨(show (0:Nat) < 2 by decide), rfl⟩
    · exact ⟨(show (1:Nat) < 2 by decide), rfl⟩
  · intro p hp; simp at hp; rcases hp with rfl | rfl
    · exact ⟨(show (0:Nat) < 2 by decide), fun i hi => by simp [Ent.hass] at hi⟩
    · exact ⟨(show (1:Nat) < 2 by decide), fun i hi => by simp [Ent.hass, SV.hass, SV.has] at hi; show i < 2; omega⟩
  · intro p hp; simp at hp; rcases hp with rfl | rfl
    · exact ⟨b, rfl, h⟩
    · exact ⟨c, rfl, fun _ => Iff.rfl, by simpa [SV.rfs, SV.rf, boxL, add_none] using hc⟩
  · intro p hp x hx hR; simp at hp; rcases hp with rfl | rfl
    · exact hR.2 (.inl hx)
    · exact hR.2 (.inr hx)
  · refine List.pairwise_cons.2 ⟨fun p hp => ?_, List.pairwise_singleton _ _⟩
    simp at hp
    subst hp
    exact ⟨(show (0:Nat) ≠ 1 by decide), fun x hx hx' => hn (by simp at hx hx'; subst hx'; exact hx)⟩
theorem cap_end {T TE T' t : TypeId} {k : Nat} {xs : List (List Value)} {b c : Nat} {F : Nat → Prop} {w w' : World} {ρ : Nat → Loc} {nx : Nat} {H : Heap} {S : Asn} (hc : w.heap[c]? = some (.cells #[.iface t (.pointer (some ⟨b, 0, none⟩))] T' (0, 0))) (hw : Abs ⟨w, [(0, boxL b), (1, boxL c)]⟩ ρ nx H S w') (hS : ∀ R w', S.holds R w' → (restF w (fun x => F x ∨ x = c)).holds R w')
    (h0 : (0, Ent.ext (sliceO T TE k xs)) ∈ H) (h1 : (1, Ent.box [.ifc t (.lp 0 0 0 0)] T') ∈ H) : Step F w w' ∧ ∃ F' : Nat → Prop, (∀ y, F' y → F y ∨ w.heap.size ≤ y) ∧ SliceAt T TE k xs b F' w' := by
  obtain ⟨hst, F', hF', hsl⟩ := ext_end (F := fun x => F x ∨ x = c) hw List.mem_cons_self hS h0
  obtain ⟨R, φ, hw⟩ := hw
  have hp0 := (hw.pin (0, boxL b) List.mem_cons_self).2
  have hp1 := (hw.pin (1, boxL c) (List.mem_cons_of_mem _ List.mem_cons_self)).2
  obtain ⟨c', g1, g2, g3⟩ := hw.ent _ h1
  simp only at hp0 hp1 g1
  rw [hp1] at g1
  obtain rfl : c = c' := by simpa [boxL] using g1
  obtain ⟨b', k1, k2⟩ := hw.ent _ h0
  simp only at k1
  rw [hp0] at k1
  obtain rfl : b = b' := by simpa [boxL] using k1
  have hcs := lt_size_of_some hc
  have hrest := hS R w' hw.asn
  refine ⟨⟨hst.os, hst.tape, hst.output, hst.size, fun x hx hne => ?_⟩, φ 0, fun y hy => ?_, k2⟩
  · by_cases hxc : x = c
    · subst hxc
      rw [hc, g3]
      simp [SV.rfs, SV.rf, hp0, boxL, add_none]
    · exact hst.block x hx (fun h => h.elim hne hxc)
  · rcases Nat.lt_or_ge y w.heap.size with hl | hl
    · by_cases hyc : y = c
      · exact absurd ((g2 y).2 hyc) (sep_two hw.sep h0 h1 (show (0:Nat) ≠ 1 by decide) y hy)
      · by_cases hFy : F y
        · exact .inl hFy
        · exact absurd (hrest y ⟨hl, fun h => h.elim hFy hyc⟩).1 (hw.apart _ h0 y hy)
    · exact .inr hl
/-! ### Methods of such a slice, by an interface over its box -/
def methodAt (P : Program) (t : TypeId) (name : String) : Option (Nat × Option (FuncId × Bool)) := (P.info? t).bind fun i => (i.methods.find? (·.name == name)).map fun m => (m.path.size, m.func)
theorem methodAt_spec {P : Program} {t : TypeId} {name : String} {x : Option (FuncId × Bool)} (h : methodAt P t name = some (0, x)) : ∃ i mm, P.info? t = some i ∧ i.methods.find? (·.name == name) = some mm ∧ mm.path = #[] ∧ mm.func = x := by
  unfold methodAt at h
  cases hi : P.info? t with
  | none => rw [hi] at h; cases h
  | some i =>
    rw [hi, Option.bind_some] at h
    cases hm : i.methods.find? (·.name == name) with
    | none => rw [hm] at h; cases h
    | some mm =>
      rw [hm] at h
      simp only [Option.map_some, Option.some.injEq, Prod.mk.injEq] at h
      exact ⟨i, mm, rfl, hm, Array.size_eq_zero_iff.1 h.1, h.2⟩
theorem method_ptr {P : Program} {t e : TypeId} {v : Value} {name : String} {f : FuncId} {n : Nat} (hm : methodAt P t name = some (0, some (f, true))) (hu : P.underlying t = some (.pointer e)) (w : World) :
    (method (n + 1) t v name).run P w = .ok (f, v) w := by
  obtain ⟨i, mm, hi, hm, hp, hf⟩ := methodAt_spec hm
  simp [method, typeInfo, hi, hm, hp, hf, follow, receiverAt, run_underlying hu, Place.get]
theorem method_val {P : Program} {t e : TypeId} {name : String} {f : FuncId} {n : Nat} {ti : TI} (hm : methodAt P t name = some (0, some (f, false))) (hu : P.underlying t = some (.pointer e)) (he : mkTI P e = some ti) (hag : ti.agg = false) {a : Addr} {v : Value} (w : World) (hc : w.cell? a = some v) :
    (method (n + 1) t (.pointer (some a)) name).run P w = .ok (f, v) w := by
  obtain ⟨i, mm, hi, hm, hp, hf⟩ := methodAt_spec hm
  have h1 := run_loadVar_one he hag hc
  have h2 : ∀ s : String, Builtin.ssaWrapNilChk_ #[t] t #[.pointer (some a), strVal "", strVal s] = pure (.pointer (some a)) := fun s => rfl
  simp [method, typeInfo, hi, hm, hp, hf, follow, receiverAt, run_underlying hu, Place.get, h2, asAddr, h1]
theorem SliceAt.cell {T TE : TypeId} {k : Nat} {xs : List (List Value)} {b : Nat} {F : Nat → Prop} {w : World} (h : SliceAt T TE k xs b F w) : ∃ (v : Loc) (G : Nat → Prop), w.cell? ⟨b, 0, none⟩ = some (.slice v.base xs.length v.cap) ∧ (∀ x, F x ↔ x = b ∨ G x) ∧ ¬ G b ∧ (Ent.rows xs k TE).holds (fun _ => v) v G w := by
  obtain ⟨v, G, h1, h2, h3, h4⟩ := h
  exact ⟨v, G, by simp [World.cell?, h1], h2, h3, h4⟩
/-- a method that is called by the interface -/
theorem invoke_slice {cx : Cx} {t : TypeId} {m : String} {args : List SV} {H : Heap} {S : Asn} {nx i : Nat} {K : SV → Heap → Asn → Nat → Prop} {T TE : TypeId} {k : Nat} {xs : List (List Value)} (hi : (i, Ent.ext (sliceO T TE k xs)) ∈ H) {α : Type} (val : α → Value) (rows : α → List (List Value)) (p : α → Prop)
    (hc : ∀ ρ w b F, SliceAt T TE k xs b F w → ∃ f vr, (method (cx.P.types.size + Made.depth) t (.pointer (some ⟨b, 0, none⟩)) m).run cx.P w = .ok (f, vr) w ∧ (∀ as w, (callFunc f as).run cx.P w = .ok (.enter f as) w) ∧
      Calls cx.P f (vr :: SV.rfs ρ args).toArray w (SlicePost w b F T TE k val rows p))
    (h : ∀ x, p x → K (.c (val x)) (setH i (.ext (sliceO T TE k (rows x))) H) S nx) : invokeK cx t (.lp i 0 0 0) m args H S nx K := by
  rw [invokeK_def]
  intro ρ w hw
  obtain ⟨R, φ, hwR⟩ := hw
  obtain ⟨b, h1, h2⟩ := hwR.ent _ hi
  obtain ⟨f, vr, g1, g2, g3⟩ := hc ρ w b (φ i) h2
  refine ⟨f, vr, ?_, g2, g3.mono ?_⟩
  · simp only at h1
    simp only [SV.rf, h1, Option.map_some, add_none]
    exact g1
  · rintro e w' ⟨x, hp, rfl, hs, F', hF, hsl⟩
    have h' := hwR.move hi (e' := .ext (sliceO T TE k (rows x))) (fun y hy => by simp [Ent.hass] at hy) hs hF ⟨b, h1, hsl⟩
    exact ⟨.c (val x), ρ, _, _, nx, rfl, fun _ _ => rfl, Nat.le_refl _, SV.lt_c _, ⟨R, _, h'⟩, h x hp⟩
theorem delH_apart {φ : Nat → Nat → Prop} {i : Nat} : ∀ {H : Heap}, H.Pairwise (fun p q => p.1 ≠ q.1 ∧ ∀ b, φ p.1 b → ¬ φ q.1 b) → ∀ {e : Ent}, (i, e) ∈ H → ∀ p ∈ delH i H, p.1 ≠ i
  | [], _, e, he, _, _ => by cases he
  | (qi, qe) :: r, hsep, e, he, p, hp => by
    obtain ⟨hq, hr⟩ := List.pairwise_cons.1 hsep
    unfold delH at hp
    cases hbq : Nat.beq qi i with
    | true =>
      rw [hbq, cond_true] at hp
      have := Nat.eq_of_beq_eq_true hbq
      subst this
      exact (hq p hp).1.symm
    | false =>
      rw [hbq, cond_false] at hp
      have hne := Nat.ne_of_beq_eq_false hbq
      have her : (i, e) ∈ r := (List.mem_cons.1 he).resolve_left (fun g => hne (by simpa using congrArg Prod.fst g.symm))
      rcases List.mem_cons.1 hp with g | g
      · subst g; exact hne
      · exact delH_apart hr her p g
theorem mem_delH {i : Nat} : ∀ {H : Heap} {p : Nat × Ent}, p ∈ H → p.1 ≠ i → p ∈ delH i H
  | [], p, h, _ => by cases h
  | (qi, qe) :: r, p, h, hne => by
    unfold delH
    cases hbq : Nat.beq qi i with
    | true =>
      rw [cond_true]
      have := Nat.eq_of_beq_eq_true hbq
      subst this
      exact (List.mem_cons.1 h).resolve_left (fun g => hne (by rw [g]))
    | false =>
      rw [cond_false]
      rcases List.mem_cons.1 h with g | g
      · rw [g]; exact List.mem_cons_self
      · exact List.mem_cons_of_mem _ (mem_delH g hne)
/-- an entry's make changed in a world, its blocks among those of two -/
theorem AbsR.pack {B : Base} {R : Nat → Prop} {φ : Nat → Nat → Prop} {ρ : Nat → Loc} {nx : Nat} {H : Heap} {S : Asn} {w : World} {i j : Nat} {e d e' : Ent} (h : AbsR B R φ ρ nx H S w) (hi : (i, e) ∈ H) (hj : (j, d) ∈ H) (hij : i ≠ j) (hlt : e'.lt nx)
    (he' : e'.holds ρ (ρ i) (fun x => φ i x ∨ φ j x) w) : AbsR B R (fun y => if y = i then (fun x => φ i x ∨ φ j x) else φ y) ρ nx (setH i e' (delH j H)) S w := by
  have hd := h.drop (delH_sublist j H)
  have hiD : (i, e) ∈ delH j H := mem_delH hi hij
  have hkD := delH_apart h.sep hj
  have hk : ((setH i e' (delH j H)).map (·.1)).Pairwise (· ≠ ·) := by rw [keys_setH]; exact List.pairwise_map.2 (hd.sep.imp fun x => x.1)
  have hk' : (setH i e' (delH j H)).Pairwise fun p q => p.1 ≠ q.1 ∧ True := (List.pairwise_map.1 hk).imp fun x => ⟨x, trivial⟩
  have mem : ∀ p ∈ setH i e' (delH j H), p = (i, e') ∨ (p.1 ≠ i ∧ p ∈ delH j H) := by
    intro p hp
    obtain ⟨pi, pe⟩ := p
    by_cases hpi : pi = i
    · subst hpi
      have : pe = e' := keys_unique hk' hp (mem_setH_self hiD)
      subst this
      exact .inl rfl
    · rcases mem_setH hp with ⟨h1, _⟩ | h1
      · exact absurd (by simpa using congrArg Prod.fst h1) hpi
      · exact .inr ⟨hpi, h1⟩
  have hsub : ∀ p ∈ delH j H, p ∈ H := fun p hp => (delH_sublist j H).subset hp
  refine ⟨h.os, h.tape, h.output, h.size, h.pin, h.ro, h.asn, ?_, ?_, ?_, ?_⟩
  · intro p hp
    rcases mem p hp with rfl | ⟨_, hp⟩
    · exact ⟨(h.key _ hi).1, hlt⟩
    · exact h.key p (hsub p hp)
  · intro p hp
    rcases mem p hp with rfl | ⟨hne, hp⟩
    · simp only [if_true]; exact he'
    · simp only [if_neg hne]; exact h.ent p (hsub p hp)
  · intro p hp b hb
    rcases mem p hp with rfl | ⟨hne, hp⟩
    · simp only [if_true] at hb
      exact hb.elim (h.apart _ hi b) (h.apart _ hj b)
    · simp only [if_neg hne] at hb
      exact h.apart p (hsub p hp) b hb
  · refine List.Pairwise.imp_of_mem (R := fun p q => p.1 ≠ q.1) (fun {p q} hp hq hpq => ⟨hpq, fun b hb hb' => ?_⟩) (List.pairwise_map.1 hk)
    rcases mem p hp with rfl | ⟨hpn, hp⟩ <;> rcases mem q hq with rfl | ⟨hqn, hq⟩
    · exact hpq rfl
    · simp only [if_true, if_neg hqn] at hb hb'
      rcases hb with hb | hb
      · exact sep_two h.sep hi (hsub q hq) hpq b hb hb'
      · exact sep_two h.sep hj (hsub q hq) (fun e => hkD q hq e.symm) b hb hb'
    · simp only [if_true, if_neg hpn] at hb hb'
      rcases hb' with hb' | hb'
      · exact sep_two h.sep (hsub p hp) hi hpq b hb hb'
      · exact sep_two h.sep (hsub p hp) hj (hkD p hp) b hb hb'
    · simp only [if_neg hpn, if_neg hqn] at hb hb'
      exact sep_two h.sep (hsub p hp) (hsub q hq) hpq b hb hb'
/-- a box of one's own rows is such a slice -/
theorem Wp.pack {cx : Cx} {c : Code} {env : Env} {H : Heap} {S : Asn} {nx : Nat} {K : Exit → Env → Heap → Asn → Nat → Prop} (i j : Nat) {T TE : TypeId} {k n : Nat} {xs : List (List Value)} (hi : (i, Ent.box [.os j n] T) ∈ H) (hj : (j, Ent.rows xs k TE) ∈ H) (hn : n = xs.length) (hij : i ≠ j)
    (h : Wp cx c env (setH i (.ext (sliceO T TE k xs)) (delH j H)) S nx K) : Wp cx c env H S nx K := by
  refine ⟨fun ρ a w hs hw => h.out ρ a w hs ?_⟩
  obtain ⟨R, φ, hw⟩ := hw
  obtain ⟨b, h1, h2, h3⟩ := hw.ent _ hi
  subst hn
  refine ⟨R, _, hw.pack hi hj hij (fun y hy => by simp [Ent.hass] at hy) ⟨b, h1, ρ j, φ j, by simpa [SV.rfs, SV.rf] using h3, fun x => or_congr (h2 x) Iff.rfl, fun hb => sep_two hw.sep hi hj hij b ((h2 b).2 rfl) hb, hw.ent _ hj⟩⟩
/-- and back: looked into -/
theorem Wp.unpack {cx : Cx} {c : Code} {env : Env} {H : Heap} {S : Asn} {nx : Nat} {K : Exit → Env → Heap → Asn → Nat → Prop} (i : Nat) {T TE : TypeId} {k : Nat} {xs : List (List Value)} (hi : (i, Ent.ext (sliceO T TE k xs)) ∈ H)
    (h : Wp cx c env ((nx, .rows xs k TE) :: setH i (.box [.os nx xs.length] T) H) S (nx + 1) K) : Wp cx c env H S nx K := by
  rw [Wp_def] at h ⊢
  intro ρ a w hs hw
  obtain ⟨R, φ, hw⟩ := hw
  obtain ⟨b, h1, v, G, h2, h3, h4, h5⟩ := hw.ent _ hi
  simp only at h1 h3
  have hk : ((setH i (Ent.box [.os nx xs.length] T) H).map (·.1)).Pairwise (· ≠ ·) := by rw [keys_setH]; exact List.pairwise_map.2 (hw.sep.imp fun x => x.1)
  have hk' : (setH i (Ent.box [.os nx xs.length] T) H).Pairwise fun p q => p.1 ≠ q.1 ∧ True := (List.pairwise_map.1 hk).imp fun x => ⟨x, trivial⟩
  have mem : ∀ p ∈ setH i (Ent.box [.os nx xs.length] T) H, p = (i, .box [.os nx xs.length] T) ∨ (p.1 ≠ i ∧ p ∈ H) := by
    intro p hp
    obtain ⟨pi, pe⟩ := p
    by_cases hpi : pi = i
    · subst hpi
      have : pe = .box [.os nx xs.length] T := keys_unique hk' hp (mem_setH_self hi)
      subst this
      exact .inl rfl
    · rcases mem_setH hp with ⟨h1, _⟩ | h1
      · exact absurd (by simpa using congrArg Prod.fst h1) hpi
      · exact .inr ⟨hpi, h1⟩
  have hin : i < nx := (hw.key _ hi).1
  have hi_ne : i ≠ nx := by omega
  have hbF : φ i b := (h3 b).2 (.inl rfl)
  have hGF : ∀ x, G x → φ i x := fun x hx => (h3 x).2 (.inr hx)
  have hs' : Sat cx.n (upd ρ nx v) (nx + 1) env a := ⟨hs.defers, hs.size, fun t u hu ht => by rw [hs.val t u hu ht, SV.rf_lt (hs.lt t u hu) (fun j hj => (upd_lt hj).symm)], fun t u hu => (hs.lt t u hu).mono (Nat.le_succ _)⟩
  have key := h (upd ρ nx v) a w hs' ⟨R, fun y => if y = nx then G else if y = i then (fun x => x = b) else φ y, hw.os, hw.tape, hw.output, hw.size, fun p hp => ⟨Nat.lt_succ_of_lt (hw.pin p hp).1, by rw [upd_lt (hw.pin p hp).1]; exact (hw.pin p hp).2⟩, hw.ro, hw.asn, ?_, ?_, ?_, ?_⟩
  · refine wp_mono key ?_
    rintro e a' w' ⟨ρ', env', H', S', nx', g1, g2, g3, g4, g5⟩
    exact ⟨ρ', env', H', S', nx', fun j hj => (g1 j (Nat.lt_succ_of_lt hj)).trans (upd_lt hj), Nat.le_trans (Nat.le_succ _) g2, g3, g4, g5⟩
  · intro p hp
    rcases List.mem_cons.1 hp with rfl | hp
    · exact ⟨Nat.lt_succ_self _, fun y hy => by simp [Ent.hass] at hy⟩
    · rcases mem p hp with rfl | ⟨_, hp⟩
      · exact ⟨Nat.lt_succ_of_lt hin, fun y hy => by simp [Ent.hass, SV.hass, SV.has] at hy; show y < nx + 1; omega⟩
      · exact ⟨Nat.lt_succ_of_lt (hw.key p hp).1, (hw.key p hp).2.mono (Nat.le_succ _)⟩
  · intro p hp
    rcases List.mem_cons.1 hp with rfl | hp
    · simp only [if_true, upd_same]; exact h5
    · rcases mem p hp with rfl | ⟨hne, hp⟩
      · simp only [if_neg hi_ne, if_true, upd_lt hin]
        exact ⟨b, h1, fun _ => Iff.rfl, by simpa [SV.rfs, SV.rf, upd_same] using h2⟩
      · have hlt := (hw.key p hp).1
        have hne' : p.1 ≠ nx := by omega
        simp only [if_neg hne', if_neg hne, upd_lt hlt]
        exact Ent.holds_congr (fun j hj => (upd_lt ((hw.key p hp).2 j hj)).symm) (hw.ent p hp)
  · intro p hp x hx
    rcases List.mem_cons.1 hp with rfl | hp
    · simp only [if_true] at hx; exact hw.apart _ hi x (hGF x hx)
    · rcases mem p hp with rfl | ⟨hne, hp⟩
      · simp only [if_neg hi_ne, if_true] at hx; subst hx; exact hw.apart _ hi x hbF
      · have hne' : p.1 ≠ nx := by have := (hw.key p hp).1; omega
        simp only [if_neg hne', if_neg hne] at hx
        exact hw.apart p hp x hx
  · refine List.pairwise_cons.2 ⟨fun p hp => ?_, ?_⟩
    · rcases mem p hp with rfl | ⟨hne, hp⟩
      · refine ⟨fun e => hi_ne e.symm, fun x hx hx' => ?_⟩
        simp only [if_true, if_neg hi_ne] at hx hx'
        subst hx'; exact h4 hx
      · have hne' : p.1 ≠ nx := by have := (hw.key p hp).1; omega
        refine ⟨fun e => hne' e.symm, fun x hx hx' => ?_⟩
        simp only [if_true, if_neg hne', if_neg hne] at hx hx'
        exact sep_two hw.sep hp hi hne x hx' (hGF x hx)
    · refine List.Pairwise.imp_of_mem (R := fun p q => p.1 ≠ q.1) (fun {p q} hp hq hpq => ⟨hpq, fun x hx hx' => ?_⟩) (List.pairwise_map.1 hk)
      rcases mem p hp with rfl | ⟨hpn, hp⟩ <;> rcases mem q hq with rfl | ⟨hqn, hq⟩
      · exact hpq rfl
      · have hne' : q.1 ≠ nx := by have := (hw.key q hq).1; omega
        simp only [if_neg hi_ne, if_true, if_neg hne', if_neg hqn] at hx hx'
        subst hx
        exact sep_two hw.sep hi hq hpq x hbF hx'
      · have hne' : p.1 ≠ nx := by have := (hw.key p hp).1; omega
        simp only [if_neg hi_ne, if_true, if_neg hne', if_neg hpn] at hx hx'
        subst hx'
        exact sep_two hw.sep hp hi hpq x hx hbF
      · have hne' : p.1 ≠ nx := by have := (hw.key p hp).1; omega
        have hne'' : q.1 ≠ nx := by have := (hw.key q hq).1; omega
        simp only [if_neg hne', if_neg hpn, if_neg hne'', if_neg hqn] at hx hx'
        exact sep_two hw.sep hp hq hpq x hx hx'
/-- a new box of a nil slice is such a slice -/
theorem Wp.slice {cx : Cx} {c : Code} {env : Env} {H1 H2 : Heap} {S : Asn} {nx i : Nat} {K : Exit → Env → Heap → Asn → Nat → Prop} {T : TypeId} (TE : TypeId) (k : Nat) (h : Wp cx c env (H1 ++ (i, .ext (sliceO T TE k [])) :: H2) S nx K) : Wp cx c env (H1 ++ (i, .box [.c (.slice none 0 0)] T) :: H2) S nx K := by
  refine ⟨fun ρ a w hs hw => h.out ρ a w hs ?_⟩
  obtain ⟨R, φ, hw⟩ := hw
  have conv : ∀ {Q : Nat × Ent → Prop}, (∀ p ∈ H1 ++ (i, Ent.box [.c (.slice none 0 0)] T) :: H2, Q p) → Q (i, .ext (sliceO T TE k [])) → ∀ p ∈ H1 ++ (i, Ent.ext (sliceO T TE k [])) :: H2, Q p := by
    intro Q hQ hq p hp
    rcases List.mem_append.1 hp with hp | hp
    · exact hQ p (List.mem_append.2 (.inl hp))
    · rcases List.mem_cons.1 hp with rfl | hp
      · exact hq
      · exact hQ p (List.mem_append.2 (.inr (List.mem_cons_of_mem _ hp)))
  have hm : (i, Ent.box [.c (.slice none 0 0)] T) ∈ H1 ++ (i, Ent.box [.c (.slice none 0 0)] T) :: H2 := by simp
  refine ⟨R, φ, hw.os, hw.tape, hw.output, hw.size, hw.pin, hw.ro, hw.asn, conv hw.key ⟨(hw.key _ hm).1, fun x hx => by simp [Ent.hass] at hx⟩, conv hw.ent ?_, conv hw.apart (fun b hb => hw.apart _ hm b hb), ?_⟩
  · obtain ⟨b, h1, h2, h3⟩ := hw.ent _ hm
    refine ⟨b, h1, ⟨none, 0⟩, fun _ => False, by simpa [SV.rfs, SV.rf] using h3, fun x => by simp [h2 x], fun h => h, by simp, by simp, .inl ⟨rfl, rfl, fun x h => h⟩⟩
  · have e1 : ((H1 ++ (i, Ent.box [.c (.slice none 0 0)] T) :: H2).map Prod.fst).Pairwise (fun a b => a ≠ b ∧ ∀ x, φ a x → ¬ φ b x) := List.pairwise_map.2 hw.sep
    rw [List.map_append, List.map_cons] at e1
    have e2 : (H1 ++ (i, Ent.ext (sliceO T TE k [])) :: H2).map Prod.fst = H1.map Prod.fst ++ i :: H2.map Prod.fst := by rw [List.map_append, List.map_cons]
    have e3 : ((H1 ++ (i, Ent.ext (sliceO T TE k [])) :: H2).map Prod.fst).Pairwise (fun a b => a ≠ b ∧ ∀ x, φ a x → ¬ φ b x) := by rw [e2]; exact e1
    exact List.pairwise_map.1 e3
end Go.SX
