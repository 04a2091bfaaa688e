import Derived.Test.YtajbngkcgbehlaaSxM
namespace Go.SX
open Go.RowKit

def Asn.and (S T : Asn) : Asn where
  holds R w := S.holds R w ∧ T.holds R w
  stable := fun hR hw h => ⟨S.stable hR hw h.1, T.stable hR hw h.2⟩

/-- rows that stay -/
def rowsA (base : Option Addr) (k : Nat) (xs : List (List Value)) : Asn where
  holds R w := (∀ r ∈ xs, r.length = k ∧ ∀ v ∈ r, v.oneCell' = true) ∧ (xs = [] ∨ ∃ b off, base = some ⟨b, off, none⟩ ∧ R b ∧ ∀ i r, xs[i]? = some r → ∀ j v, r[j]? = some v → w.cell? ⟨b, off + (i * k + j), none⟩ = some v)
  stable := by
    intro R R' w w' hR hw h
    refine ⟨h.1, ?_⟩
    rcases h.2 with h | ⟨b, off, h1, h2, h3⟩
    · exact .inl h
    · refine .inr ⟨b, off, h1, hR b h2, fun i r hi j v hj => ?_⟩
      have := h3 i r hi j v hj
      unfold World.cell? at this ⊢
      simp only [hw b h2]
      exact this

/-- a fact on blocks from N on -/
def Asn.past (N : Nat) (D : Asn) : Asn where
  holds R w := D.holds (fun b => R b ∧ N ≤ b) w
  stable := fun hR hw h => D.stable (fun b hb => ⟨hR b hb.1, hb.2⟩) (fun b hb => hw b hb.1) h
/-- One's own rows, to be written no more. -/
theorem Abs.frozen {B : Base} {ρ : Nat → Loc} {nx : Nat} {H : Heap} {S : Asn} {w : World} {i k : Nat} {T : TypeId} {xs : List (List Value)} (h : Abs B ρ nx ((i, .rows xs k T) :: H) S w) (N : Nat) (hN : ∀ R w', S.holds R w' → ∀ b, b < N → R b) :
    xs.length ≤ (ρ i).cap ∧ Abs B ρ nx H (S.and ((rowsA (ρ i).base k xs).past N)) w := by
  obtain ⟨R, φ, hw⟩ := h
  have hent := hw.ent _ List.mem_cons_self
  obtain ⟨hr, hcap, hent'⟩ := hent
  obtain ⟨hsep, _⟩ := List.pairwise_cons.1 hw.sep
  refine ⟨hcap, fun b => R b ∨ φ i b, φ, ?_⟩
  have hsub := hw.drop (List.sublist_cons_self _ _)
  refine ⟨hw.os, hw.tape, hw.output, hw.size, hw.pin, fun b hb => hb.elim (hw.ro b) (fun hb => Ent.size (hw.ent _ List.mem_cons_self) hb), ⟨S.stable (fun _ h => .inl h) (fun _ _ => rfl) hw.asn, hr, ?_⟩, hsub.key, hsub.ent, ?_, hsub.sep⟩
  · rcases hent' with ⟨h1, h2, _⟩ | ⟨b, off, c', h1, h2, h3, h4, h5⟩
    · simp only at hcap h2; exact .inl (List.eq_nil_of_length_eq_zero (by omega))
    · exact .inr ⟨b, off, h1, ⟨.inr ((h2 b).2 rfl), Nat.le_of_not_lt fun hb => hw.apart _ List.mem_cons_self b ((h2 b).2 rfl) (hN R w hw.asn b hb)⟩, fun m r hm j v hj => by have := h5 m r hm j v hj; rw [← Nat.add_assoc]; simpa [World.cell?, h3] using this⟩
  · intro p hp b hb hb'
    exact hb'.elim (hsub.apart p hp b hb) (fun g => (hsep p hp).2 b g hb)

/-- New rows that are written no more. -/
def frozenK (v : SV) (H : Heap) (S : Asn) (nx : Nat) (K : SV → Heap → Asn → Nat → Prop) : Prop :=
  match v, H with
  | .os i n, (j, .rows xs k _) :: H0 => i = j ∧ ∃ N, (∀ R w, S.holds R w → ∀ b, b < N → R b) ∧ ∀ l : Loc, xs.length ≤ l.cap → K (.c (.slice l.base n l.cap)) H0 (S.and ((rowsA l.base k xs).past N)) nx
  | _, _ => False
/-- New rows: one's own, or to be written no more. -/
structure ownK (v : SV) (H : Heap) (S : Asn) (nx : Nat) (K : SV → Heap → Asn → Nat → Prop) : Prop where
  out : K v H S nx ∨ frozenK v H S nx K
theorem own_sound {B : Base} {v : SV} {H : Heap} {S : Asn} {nx : Nat} {K : SV → Heap → Asn → Nat → Prop} {ρ : Nat → Loc} {w : World} (h : ownK v H S nx K) (hw : Abs B ρ nx H S w) (hv : v.lt nx) :
    ∃ v2 H2 S2, v2.rf ρ = v.rf ρ ∧ v2.lt nx ∧ Abs B ρ nx H2 S2 w ∧ K v2 H2 S2 nx := by
  rcases h.out with hK | hF
  · exact ⟨v, H, S, rfl, hv, hw, hK⟩
  · clear h
    match v, H, hw, hF with
    | .os i n, (j, .rows xs k T) :: H0, hw, hF =>
      obtain ⟨rfl, N, hN, hF⟩ := hF
      obtain ⟨h1, h2⟩ := hw.frozen N hN
      exact ⟨.c (.slice (ρ i).base n (ρ i).cap), H0, _, rfl, SV.lt_c _, h2, hF (ρ i) h1⟩
theorem own_keep {v : SV} {H : Heap} {S : Asn} {nx : Nat} {K : SV → Heap → Asn → Nat → Prop} (h : K v H S nx) : ownK v H S nx K := ⟨.inl h⟩
theorem own_freeze {i n k : Nat} {xs : List (List Value)} {T : TypeId} {H : Heap} {S : Asn} {nx : Nat} {K : SV → Heap → Asn → Nat → Prop} (N : Nat) (hN : ∀ R w, S.holds R w → ∀ b, b < N → R b) (h : ∀ l : Loc, xs.length ≤ l.cap → K (.c (.slice l.base n l.cap)) H (S.and ((rowsA l.base k xs).past N)) nx) : ownK (.os i n) ((i, .rows xs k T) :: H) S nx K := ⟨.inr ⟨rfl, N, hN, h⟩⟩
end Go.SX
