import Derived.Laws.BytesString
import Derived.Laws.Cells
import Derived.Lib.Mul64
import Derived.Laws.Bits64b
import Derived.Scope
import Derived.Test.YtiofnhohjioieaaGreatDoorKPlacePlainCard1
/- SxZa -/
namespace Go.SX
open Go.RowKit

/-- at block b: a slice; its rows; F: the blocks of both -/
def SliceAt (T TE : TypeId) (k : Nat) (xs : List (List Value)) (b : Nat) (F : Nat → Prop) (w : World) : Prop :=
  ∃ (v : Loc) (G : Nat → Prop), w.heap[b]? = some (.cells #[.slice v.base xs.length v.cap] T (0, 0)) ∧ (∀ x, F x ↔ x = b ∨ G x) ∧ ¬ G b ∧ (Ent.rows xs k TE).holds (fun _ => v) v G w
theorem SliceAt.stable {T TE : TypeId} {k : Nat} {xs : List (List Value)} {b : Nat} {F : Nat → Prop} {w w' : World} (hf : ∀ x, F x → w'.heap[x]? = w.heap[x]?) (h : SliceAt T TE k xs b F w) : SliceAt T TE k xs b F w' := by
  obtain ⟨v, G, h1, h2, h3, h4⟩ := h
  exact ⟨v, G, by rw [hf b ((h2 b).2 (.inl rfl))]; exact h1, h2, h3, Ent.stable (fun x hx => hf x ((h2 x).2 (.inr hx))) h4⟩
theorem SliceAt.size {T TE : TypeId} {k : Nat} {xs : List (List Value)} {b : Nat} {F : Nat → Prop} {w : World} (h : SliceAt T TE k xs b F w) {x : Nat} (hx : F x) : x < w.heap.size := by
  obtain ⟨v, G, h1, h2, h3, h4⟩ := h
  rcases (h2 x).1 hx with rfl | hx
  · exact lt_size_of_some h1
  · exact Ent.size h4 hx
def sliceO (T TE : TypeId) (k : Nat) (xs : List (List Value)) : Own where
  holds l F w := ∃ b, l.base = some ⟨b, 0, none⟩ ∧ SliceAt T TE k xs b F w
  stable := fun hf ⟨b, h1, h2⟩ => ⟨b, h1, h2.stable hf⟩
  lt := fun ⟨_, _, h⟩ hx => h.size hx

/-- an entry written, its blocks among its own and new ones -/
theorem AbsR.move {B : Base} {R : Nat → Prop} {φ : Nat → Nat → Prop} {ρ : Nat → Loc} {nx : Nat} {H : Heap} {S : Asn} {w w' : World} {i : Nat} {e e' : Ent} (h : AbsR B R φ ρ nx H S w) (hi : (i, e) ∈ H) (hlt : e'.lt nx) {F' : Nat → Prop}
    (hs : Step (φ i) w w') (hF : ∀ y, F' y → φ i y ∨ w.heap.size ≤ y) (he' : e'.holds ρ (ρ i) F' w') : AbsR B R (fun j => if j = i then F' else φ j) ρ nx (setH i e' H) S w' := by
  have hR : ∀ b, R b → ¬ φ i b := fun b hb hb' => h.apart _ hi b hb' hb
  have hk : ((setH i e' H).map (·.1)).Pairwise (· ≠ ·) := by rw [keys_setH]; exact List.pairwise_map.2 (h.sep.imp fun x => x.1)
  have hk' : (setH i e' H).Pairwise fun p q => p.1 ≠ q.1 ∧ True := (List.pairwise_map.1 hk).imp fun x => ⟨x, trivial⟩
  have mem : ∀ p ∈ setH i e' H, p = (i, e') ∨ (p.1 ≠ i ∧ p ∈ H) := by
    intro p hp
    obtain ⟨pi, pe⟩ := p
    by_cases hpi : pi = i
    · subst hpi
      have : pe = e' := keys_unique hk' hp (mem_setH_self hi)
      subst this
      exact .inl rfl
    · rcases mem_setH hp with ⟨h1, _⟩ | h1
      · exact absurd (by simpa using congrArg Prod.fst h1) hpi
      · exact .inr ⟨hpi, h1⟩
  refine ⟨hs.os.trans h.os, hs.tape.trans h.tape, hs.output.trans h.output, Nat.le_trans h.size hs.size, h.pin, fun b hb => Nat.lt_of_lt_of_le (h.ro b hb) hs.size,
    S.stable (fun _ hb => hb) (fun b hb => hs.block b (h.ro b hb) (hR b hb)) h.asn, ?_, ?_, ?_, ?_⟩
  · intro p hp
    rcases mem p hp with rfl | ⟨_, hp⟩
    · exact ⟨(h.key _ hi).1, hlt⟩
    · exact h.key p hp
  · intro p hp
    rcases mem p hp with rfl | ⟨hne, hp⟩
    · simp only [if_true]; exact he'
    · simp only [if_neg hne]
      exact Ent.stable (fun b hb => hs.block b (Ent.size (h.ent p hp) hb) (sep_two h.sep hp hi hne b hb)) (h.ent p hp)
  · intro p hp b hb
    rcases mem p hp with rfl | ⟨hne, hp⟩
    · simp only [if_true] at hb
      rcases hF b hb with hb | hb
      · exact h.apart _ hi b hb
      · intro hRb; have := h.ro b hRb; omega
    · simp only [if_neg hne] at hb
      exact h.apart p hp b hb
  · refine List.Pairwise.imp_of_mem (R := fun p q => p.1 ≠ q.1) (fun {p q} hp hq hpq => ⟨hpq, fun b hb hb' => ?_⟩) (List.pairwise_map.1 hk)
    rcases mem p hp with rfl | ⟨hpn, hp⟩ <;> rcases mem q hq with rfl | ⟨hqn, hq⟩
    · exact hpq rfl
    · simp only [if_true, if_neg hqn] at hb hb'
      rcases hF b hb with hb | hb
      · exact sep_two h.sep hi hq hpq b hb hb'
      · have := Ent.size (h.ent q hq) hb'; omega
    · simp only [if_true, if_neg hpn] at hb hb'
      rcases hF b hb' with hb' | hb'
      · exact sep_two h.sep hp hi hpq b hb hb'
      · have := Ent.size (h.ent p hp) hb; omega
    · simp only [if_neg hpn, if_neg hqn] at hb hb'
      exact sep_two h.sep hp hq hpq b hb hb'

theorem SliceAt.at {T TE : TypeId} {k : Nat} {xs : List (List Value)} {b : Nat} {F : Nat → Prop} {w : World} (h : SliceAt T TE k xs b F w) : F b := by
  obtain ⟨v, G, h1, h2, h3, h4⟩ := h
  exact (h2 b).2 (.inl rfl)
theorem SliceAt.cell {T TE : TypeId} {k : Nat} {xs : List (List Value)} {b : Nat} {F : Nat → Prop} {w : World} (h : SliceAt T TE k xs b F w) : ∃ (v : Loc) (G : Nat → Prop), w.cell? ⟨b, 0, none⟩ = some (.slice v.base xs.length v.cap) ∧ (∀ x, F x ↔ x = b ∨ G x) ∧ ¬ G b ∧ (Ent.rows xs k TE).holds (fun _ => v) v G w := by
  obtain ⟨v, G, h1, h2, h3, h4⟩ := h
  exact ⟨v, G, by simp [World.cell?, h1], h2, h3, h4⟩
/-- a new box of a nil slice is such a slice -/
theorem Wp.slice {cx : Cx} {c : Code} {env : Env} {H1 H2 : Heap} {S : Asn} {nx i : Nat} {K : Exit → Env → Heap → Asn → Nat → Prop} {T : TypeId} (TE : TypeId) (k : Nat) (h : Wp cx c env (H1 ++ (i, .ext (sliceO T TE k [])) :: H2) S nx K) : Wp cx c env (H1 ++ (i, .box [.c (.slice none 0 0)] T) :: H2) S nx K := by
  refine ⟨fun ρ a w hs hw => h.out ρ a w hs ?_⟩
  obtain ⟨R, φ, hw⟩ := hw
  have conv : ∀ {Q : Nat × Ent → Prop}, (∀ p ∈ H1 ++ (i, Ent.box [.c (.slice none 0 0)] T) :: H2, Q p) → Q (i, .ext (sliceO T TE k [])) → ∀ p ∈ H1 ++ (i, Ent.ext (sliceO T TE k [])) :: H2, Q p := by
    intro Q hQ hq p hp
    rcases List.mem_append.1 hp with hp | hp
    · exact hQ p (List.mem_append.2 (.inl hp))
    · rcases List.mem_cons.1 hp with rfl | hp
      · exact hq
      · exact hQ p (List.mem_append.2 (.inr (List.mem_cons_of_mem _ hp)))
  have hm : (i, Ent.box [.c (.slice none 0 0)] T) ∈ H1 ++ (i, Ent.box [.c (.slice none 0 0)] T) :: H2 := by simp
  refine ⟨R, φ, hw.os, hw.tape, hw.output, hw.size, hw.pin, hw.ro, hw.asn, conv hw.key ⟨(hw.key _ hm).1, fun x hx => by simp [Ent.hass] at hx⟩, conv hw.ent ?_, conv hw.apart (fun b hb => hw.apart _ hm b hb), ?_⟩
  · obtain ⟨b, h1, h2, h3⟩ := hw.ent _ hm
    refine ⟨b, h1, ⟨none, 0⟩, fun _ => False, by simpa [SV.rfs, SV.rf] using h3, fun x => by simp [h2 x], fun h => h, by simp, by simp, .inl ⟨rfl, rfl, fun x h => h⟩⟩
  · have e1 : ((H1 ++ (i, Ent.box [.c (.slice none 0 0)] T) :: H2).map Prod.fst).Pairwise (fun a b => a ≠ b ∧ ∀ x, φ a x → ¬ φ b x) := List.pairwise_map.2 hw.sep
    rw [List.map_append, List.map_cons] at e1
    have e2 : (H1 ++ (i, Ent.ext (sliceO T TE k [])) :: H2).map Prod.fst = H1.map Prod.fst ++ i :: H2.map Prod.fst := by rw [List.map_append, List.map_cons]
    have e3 : ((H1 ++ (i, Ent.ext (sliceO T TE k [])) :: H2).map Prod.fst).Pairwise (fun a b => a ≠ b ∧ ∀ x, φ a x → ¬ φ b x) := by rw [e2]; exact e1
    exact List.pairwise_map.1 e3
end Go.SX

/- SxZb -/
namespace Go.SX
open Go.RowKit

theorem wrap_word {z : Int} {K : Int → Prop} (h : K (z % 18446744073709551616)) : wrapK .u64 z K := by
  refine wrap_to ?_ h
  simp only [IntKind.wrap, IntKind.signed, IntKind.bits, Bool.false_and]
  have : (2 : Int) ^ 64 = 18446744073709551616 := by decide
  simp only [this]
  simp
theorem shr_of {x y z : Int} {K : Int → Prop} (k : Nat) (hy : y = k) (hk : k ≤ 64) (hz : x / 2 ^ k = z) (h : K z) : shiftK .shr .u64 x y K := by
  rw [shiftK_def]
  subst hy
  refine ⟨by omega, x / 2 ^ k, ?_, by rw [hz]; exact h⟩
  have e : min (k : Int).toNat (IntKind.bits .u64) = k := by simp [IntKind.bits]; omega
  rw [e]
  exact (Int.fdiv_eq_ediv_of_nonneg x (Int.le_of_lt (Int.pow_pos (by decide)))).symm
end Go.SX

/- SxZp -/
namespace Go.SX
open Go.RowKit
theorem wrapN_u64 (a : Nat) : IntKind.u64.wrap (a : Int) = ((a % 18446744073709551616 : Nat) : Int) := by
  have h : wrapK .u64 (a : Int) (fun z => z = (a : Int) % 18446744073709551616) := wrap_word rfl
  rw [wrapK_def] at h
  rw [h]; omega
theorem wrap_isU {z : Int} {K : Int → Prop} (y : Nat) (h : z = y) (hy : y < 18446744073709551616) (hk : K y) : wrapK .u64 z K := by
  subst h; exact wrap_u64 (by omega) (by omega) hk
theorem wrap_modU {z : Int} {K : Int → Prop} (y : Nat) (h : z = y) (hk : K ((y % 18446744073709551616 : Nat) : Int)) : wrapK .u64 z K := by
  subst h; exact wrap_to (wrapN_u64 y) hk
theorem wrap_addU {a b : Nat} {K : Int → Prop} (hk : K ((a + b : Nat) : Int)) (h : a + b < 18446744073709551616 := by first | assumption | omega) : wrapK .u64 ((a : Int) + (b : Int)) K := wrap_isU (a + b) (by omega) h hk
theorem wrap_mulU {a b : Nat} {K : Int → Prop} (hk : K ((a * b : Nat) : Int)) (h : a * b < 18446744073709551616 := by first | assumption | omega) : wrapK .u64 ((a : Int) * (b : Int)) K := wrap_isU (a * b) (Int.natCast_mul a b).symm h hk
theorem div_U {a b : Nat} {K : Int → Prop} (hk : K ((a / b : Nat) : Int)) (hb : 0 < b := by first | assumption | omega) (ha : a < 18446744073709551616 := by first | assumption | omega) : divK .u64 (a : Int) (b : Int) K := by
  rw [divK_def]
  refine ⟨by omega, ?_⟩
  rw [Int.tdiv_eq_ediv_of_nonneg (by omega), show (a : Int) / (b : Int) = ((a / b : Nat) : Int) from rfl, wrapN_u64, Nat.mod_eq_of_lt (Nat.lt_of_le_of_lt (Nat.div_le_self a b) ha)]
  exact hk
theorem rem_U {a b : Nat} {K : Int → Prop} (hk : K ((a % b : Nat) : Int)) (hb : 0 < b := by first | assumption | omega) : remK (a : Int) (b : Int) K := by
  rw [remK_def]
  refine ⟨by omega, ?_⟩
  rw [Int.tmod_eq_emod_of_nonneg (by omega)]; exact hk
theorem shr_U {a : Nat} {y : Int} {K : Int → Prop} (k : Nat) (hy : y = k) (hk64 : k ≤ 64) (hk : K ((a / 2 ^ k : Nat) : Int)) : shiftK .shr .u64 (a : Int) y K :=
  shr_of (z := ((a / 2 ^ k : Nat) : Int)) k hy hk64 (by rw [Int.natCast_ediv]; simp) hk
theorem bitsOf_bits (a b : Nat) (ha : a < 18446744073709551616) (hb : b < 18446744073709551616) : bitsOf .and .u64 (a : Int) (b : Int) = ((a &&& b : Nat) : Int) := bits_and_u64_nat a b ha hb
theorem bits_eq {op : BinOp} {k : IntKind} {x y z : Int} {K : Int → Prop} (e : bitsOf op k x y = z) (h : K z) : bitsK op k x y K := by rw [bitsK_def, e]; exact h
/-- the lowest 32 bits, the lowest bit -/
theorem and_half {a : Nat} {K : Int → Prop} (hk : K ((a % 4294967296 : Nat) : Int)) (ha : a < 18446744073709551616 := by first | assumption | omega) : bitsK .and .u64 (a : Int) 4294967295 K :=
  bits_eq ((bitsOf_bits a 4294967295 ha (by decide)).trans (by rw [show a &&& 4294967295 = a % 4294967296 from Nat.and_two_pow_sub_one_eq_mod a 32])) hk
theorem and_one {a : Nat} {K : Int → Prop} (hk : K ((a % 2 : Nat) : Int)) (ha : a < 18446744073709551616 := by first | assumption | omega) : bitsK .and .u64 (a : Int) 1 K :=
  bits_eq ((bitsOf_bits a 1 ha (by decide)).trans (by rw [show a &&& 1 = a % 2 from Nat.and_one_is_mod a])) hk
end Go.SX

/- SxZq -/
namespace Go.SX
open Go.RowKit
def noGotoK (K : Exit → Env → Heap → Asn → Nat → Prop) : Exit → Env → Heap → Asn → Nat → Prop
  | .goto _, _, _, _, _ => False
  | e, env, H, S, nx => K e env H S nx
theorem Wp.scope {cx : Cx} {c : Code} {env : Env} {H : Heap} {S : Asn} {nx : Nat} {K : Exit → Env → Heap → Asn → Nat → Prop} (h : Wp cx c env H S nx (noGotoK K)) : Wp cx (.scope c) env H S nx K := by
  rw [Wp_def] at h ⊢
  intro ρ a w hs hw
  refine wp_scope_straight (wp_mono (h ρ a w hs hw) ?_)
  rintro e a' w' ⟨ρ', env', H', S', nx', h2, h3, h4, h5, h6⟩
  cases e with
  | goto l => exact h6.elim
  | normal => exact ⟨ρ', env', H', S', nx', h2, h3, h4, h5, h6⟩
  | exit id => exact ⟨ρ', env', H', S', nx', h2, h3, h4, h5, h6⟩
  | ret => exact ⟨ρ', env', H', S', nx', h2, h3, h4, h5, h6⟩
  | panic ch => exact ⟨ρ', env', H', S', nx', h2, h3, h4, h5, h6⟩
  | outgrown => exact ⟨ρ', env', H', S', nx', h2, h3, h4, h5, h6⟩
end Go.SX

