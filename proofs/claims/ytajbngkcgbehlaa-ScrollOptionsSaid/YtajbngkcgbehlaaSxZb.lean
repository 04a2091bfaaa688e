import Derived.Test.YtajbngkcgbehlaaSxZa
import Derived.Laws.BytesString
import Derived.Laws.Cells
namespace Go.SX
open Go.RowKit

/-! ### Bytes and strings -/
def byts (l : List Int) : List (List Value) := l.map fun x => [Value.int .u8 x]
theorem byts_length (l : List Int) : (byts l).length = l.length := by simp [byts]
theorem byts_get {l : List Int} {k : Nat} (h : k < l.length) : (byts l)[k]? = some [.int .u8 l[k]] := by simp [byts, h]
theorem byts_append (a b : List Int) : byts (a ++ b) = byts a ++ byts b := by simp [byts]
theorem byts_take (a : List Int) (n : Nat) : byts (a.take n) = (byts a).take n := by simp [byts, List.map_take]
def strOf (l : List Int) : ByteArray := l.foldl (fun r n => r.push (UInt8.ofNat n.toNat)) ByteArray.empty
theorem run_str {P : Program} {w : World} {s d e : TypeId} {base : Option Addr} {c : Nat} {bs : List Int} (hs : P.underlying s = some (.slice e)) (he : P.underlying e = some (.int .u8)) (hd : P.underlying d = some .string) (h : RowsI w base 1 (byts bs)) :
    (convert s d (.slice base bs.length c)).run P w = .ok (.string (strOf bs)) w := by
  rw [run_convert_bytes_string w s d e base _ c hs he hd]
  cases base with
  | none =>
    rcases h with h | ⟨a, ha, _⟩
    · have : bs = [] := by cases bs with | nil => rfl | cons x r => simp [byts] at h
      subst this
      simp [Conv.bytesToString, strOf]
    · cases ha
  | some a =>
    refine run_bytesToString w a bs.length c bs ?_
    have hc : ∀ j v, (bs.map (Value.int .u8))[j]? = some v → w.cell? (a.add j) = some v := by
      intro j v hj
      rw [List.getElem?_map] at hj
      cases hb : bs[j]? with
      | none => rw [hb] at hj; cases hj
      | some x =>
        rw [hb] at hj
        cases hj
        have hjl := (List.getElem?_eq_some_iff.1 hb).1
        rcases h with h | ⟨a', ha, h1⟩
        · have h0 : bs.length = 0 := by rw [← byts_length, h]; rfl
          omega
        · obtain rfl : a = a' := by simpa using ha
          have := h1 j [.int .u8 x] (by simp [byts, hb]) 0 _ rfl
          simpa using this
    have := run_loadCells_list (P := P) (w := w) a (bs.map (Value.int .u8)) hc
    simpa using this
theorem rows_in {TE : TypeId} {k : Nat} {xs : List (List Value)} {v : Loc} {G : Nat → Prop} {ρ : Nat → Loc} {w : World} (h : (Ent.rows xs k TE).holds ρ v G w) : RowsI w v.base k xs := by
  obtain ⟨_, hcap, h⟩ := h
  rcases h with ⟨h1, h2, _⟩ | ⟨b, off, c, h1, _, h3, h4, h5⟩
  · rw [h2] at hcap
    exact .inl (List.length_eq_zero_iff.1 (by omega))
  · refine .inr ⟨⟨b, off, none⟩, h1, fun i r hi j v hj => ?_⟩
    have := h5 i r hi j v hj
    rw [Nat.add_assoc] at this
    rw [add_none]
    simpa [World.cell?, h3] using this
/-- one's own bytes -/
theorem str_own {cx : Cx} {s d e T : TypeId} {i n : Nat} {H : Heap} {S : Asn} {K : SV → Prop} {bs : List Int} (hs : cx.P.underlying s = some (.slice e)) (he : cx.P.underlying e = some (.int .u8)) (hd : cx.P.underlying d = some .string) (hi : (i, Ent.rows (byts bs) 1 T) ∈ H) (hn : n = bs.length) (h : K (.c (.string (strOf bs)))) :
    strK cx s d (.os i n) H S K := by
  rw [strK_def]
  refine ⟨_, h, fun ρ nx w hw => ?_⟩
  subst hn
  obtain ⟨R, φ, hw⟩ := hw
  exact run_str hs he hd (rows_in (hw.ent _ hi))
/-- bytes that stay -/
theorem str_ro {cx : Cx} {s d e : TypeId} {base : Option Addr} {n c : Nat} {H : Heap} {S : Asn} {K : SV → Prop} {bs : List Int} (hs : cx.P.underlying s = some (.slice e)) (he : cx.P.underlying e = some (.int .u8)) (hd : cx.P.underlying d = some .string) (hr : ∀ R w, S.holds R w → RowsI w base 1 (byts bs)) (hn : n = bs.length) (h : K (.c (.string (strOf bs)))) :
    strK cx s d (.c (.slice base n c)) H S K := by
  rw [strK_def]
  refine ⟨_, h, fun ρ nx w hw => ?_⟩
  subst hn
  obtain ⟨R, φ, hw⟩ := hw
  exact run_str hs he hd (hr R w hw.asn)
theorem str_eql {P : Program} {t : TypeId} {ox oy : Operand} {a b : ByteArray} {K : SV → Prop} (hab : a = b) (h : K (.c (.bool true))) : pureK P (do eqGuard .eql t ox oy (.string a) (.string b); binOp .eql t (.string a) (.string b)) K := by
  rw [pureK_def]
  subst hab
  refine ⟨_, fun w => ?_, h⟩
  have h1 : (eqGuard .eql t ox oy (.string a) (.string a)).run P w = .ok () w := by unfold eqGuard; simp
  simp only [Sem.run_bind, h1, Result.andThen_ok]
  simp [binOp, Op.stringOp]
theorem str_neq {P : Program} {t : TypeId} {ox oy : Operand} {a b : ByteArray} {K : SV → Prop} (hab : a = b) (h : K (.c (.bool false))) : pureK P (do eqGuard .neq t ox oy (.string a) (.string b); binOp .neq t (.string a) (.string b)) K := by
  rw [pureK_def]
  subst hab
  refine ⟨_, fun w => ?_, h⟩
  have h1 : (eqGuard .neq t ox oy (.string a) (.string a)).run P w = .ok () w := by unfold eqGuard; simp
  simp only [Sem.run_bind, h1, Result.andThen_ok]
  simp [binOp, Op.stringOp]

/-! ### Numbers as bytes -/
theorem wrap_byte {z : Int} {K : Int → Prop} (h : K (z % 256)) : wrapK .u8 z K := by
  refine wrap_to ?_ h
  simp only [IntKind.wrap, IntKind.signed, IntKind.bits, Bool.false_and]
  have : (2 : Int) ^ 8 = 256 := by decide
  simp only [this]
  simp
theorem wrap_word {z : Int} {K : Int → Prop} (h : K (z % 18446744073709551616)) : wrapK .u64 z K := by
  refine wrap_to ?_ h
  simp only [IntKind.wrap, IntKind.signed, IntKind.bits, Bool.false_and]
  have : (2 : Int) ^ 64 = 18446744073709551616 := by decide
  simp only [this]
  simp
theorem shr_of {x y z : Int} {K : Int → Prop} (k : Nat) (hy : y = k) (hk : k ≤ 64) (hz : x / 2 ^ k = z) (h : K z) : shiftK .shr .u64 x y K := by
  rw [shiftK_def]
  subst hy
  refine ⟨by omega, x / 2 ^ k, ?_, by rw [hz]; exact h⟩
  have e : min (k : Int).toNat (IntKind.bits .u64) = k := by simp [IntKind.bits]; omega
  rw [e]
  exact (Int.fdiv_eq_ediv_of_nonneg x (Int.le_of_lt (Int.pow_pos (by decide)))).symm
theorem shl_of {x y z : Int} {K : Int → Prop} (k : Nat) (hy : y = k) (hk : k ≤ 64) (hz : x * 2 ^ k = z) (h0 : 0 ≤ z) (h1 : z < 18446744073709551616) (h : K z) : shiftK .shl .u64 x y K := by
  rw [shiftK_def]
  subst hy
  refine ⟨by omega, z, ?_, h⟩
  have e : min (k : Int).toNat (IntKind.bits .u64) = k := by simp [IntKind.bits]; omega
  rw [e, hz]
  have : wrapK .u64 z (fun y => z = y) := wrap_u64 h0 (by omega) rfl
  rw [wrapK_def] at this
  exact this
end Go.SX
