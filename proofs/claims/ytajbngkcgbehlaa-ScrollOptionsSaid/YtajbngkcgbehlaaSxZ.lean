import Derived.Test.YtajbngkcgbehlaaSxY
namespace Go.SX
open Go.RowKit
theorem sep_two {φ : Nat → Nat → Prop} : ∀ {H : Heap}, H.Pairwise (fun p q => p.1 ≠ q.1 ∧ ∀ b, φ p.1 b → ¬ φ q.1 b) → ∀ {p q : Nat × Ent}, p ∈ H → q ∈ H → p.1 ≠ q.1 → ∀ b, φ p.1 b → ¬ φ q.1 b
  | [], _, p, q, hp, _, _, _, _ => by cases hp
  | x :: r, hs, p, q, hp, hq, hne, b, hb => by
    obtain ⟨hx, hr⟩ := List.pairwise_cons.1 hs
    intro hb'
    rcases List.mem_cons.1 hp with gp | gp <;> rcases List.mem_cons.1 hq with gq | gq
    · exact hne (by rw [gp, gq])
    · rw [← gp] at hx; exact (hx _ gq).2 b hb hb'
    · rw [← gq] at hx; exact (hx _ gp).2 b hb' hb
    · exact sep_two hr gp gq hne b hb hb'
/-- one's own rows, in a function that got a box: they are new -/
theorem box_rows {w w' : World} {b : Nat} {ρ : Nat → Loc} {nx j k : Nat} {H : Heap} {S : Asn} {cells : List SV} {T T' : TypeId} {xs : List (List Value)} (hw : Abs ⟨w, [(0, boxL b)]⟩ ρ nx H S w') (hS : ∀ R w', S.holds R w' → (restA w b).holds R w') (h0 : (0, Ent.box cells T) ∈ H) (he : (j, Ent.rows xs k T') ∈ H) (hj : j ≠ 0) :
    NewRows w w' ((SV.os j xs.length).rf ρ) k T' xs := by
  obtain ⟨R, φ, hw⟩ := hw
  have hp := (hw.pin (0, boxL b) List.mem_cons_self).2
  obtain ⟨b', h1, h2, h3⟩ := hw.ent _ h0
  simp only at hp h1
  rw [hp] at h1
  obtain rfl : b = b' := by simpa [boxL] using h1
  refine ⟨ρ j, rfl, φ j, fun x hx => ?_, hw.ent _ he⟩
  rcases Nat.lt_or_ge x w.heap.size with hl | hl
  · exfalso
    by_cases hxb : x = b
    · exact sep_two hw.sep he h0 hj x hx ((h2 x).2 hxb)
    · exact hw.apart _ he x hx (hS R w' hw.asn x ⟨hl, hxb⟩).1
  · exact hl
end Go.SX
