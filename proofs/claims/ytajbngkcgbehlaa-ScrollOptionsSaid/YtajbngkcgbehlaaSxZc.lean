import Derived.Test.YtajbngkcgbehlaaSxZb
namespace Go.SX
open Go.RowKit
/-! ### Bytes that are read, the rest of them in a box beside a number -/
structure RdV where
  base : Option Addr
  cap : Nat
  bs : List Int
def RdV.val (v : RdV) : Value := .slice v.base v.bs.length v.cap
def bytsD (u : RdV) : Asn := rowsA u.base 1 (byts u.bs)
def rcells (u : RdV) (e : Int) : List Value := [u.val, .int .i64 e]
/-- what is left of some bytes -/
structure Rest (u u' : RdV) : Prop where
  drop : ∃ k, u'.bs = u.bs.drop k
  room : u'.bs.length ≤ u'.cap
  data : ∀ R w, (bytsD u).holds R w → (bytsD u').holds R w
theorem Rest.trans {a b c : RdV} (h : Rest a b) (g : Rest b c) : Rest a c := by
  obtain ⟨⟨k, hk⟩, h2, h3⟩ := h
  obtain ⟨⟨j, hj⟩, g2, g3⟩ := g
  exact ⟨⟨k + j, by rw [hj, hk, List.drop_drop]⟩, g2, fun R w hh => g3 R w (h3 R w hh)⟩
theorem Rest.refl {a : RdV} (h : a.bs.length ≤ a.cap) : Rest a a := ⟨⟨0, rfl⟩, h, fun _ _ h => h⟩
theorem Rest.bytes {u u' : RdV} (h : Rest u u') (hb : ∀ x ∈ u.bs, 0 ≤ x ∧ x ≤ 255) : ∀ x ∈ u'.bs, 0 ≤ x ∧ x ≤ 255 := by
  obtain ⟨⟨k, hk⟩, _, _⟩ := h
  intro x hx
  rw [hk] at hx
  exact hb x (List.mem_of_mem_drop hx)
theorem Rest.len {u u' : RdV} (h : Rest u u') : u'.bs.length ≤ u.bs.length := by
  obtain ⟨⟨k, hk⟩, _, _⟩ := h
  rw [hk, List.length_drop]; omega
/-- the rest behind n bytes -/
def dropB (u : RdV) (n : Nat) : RdV := ⟨if u.cap = n then u.base else u.base.map (·.add (n * 1)), u.cap - n, u.bs.drop n⟩
theorem dropB_rest {u : RdV} {n : Nat} (hr : u.bs.length ≤ u.cap) (_hn : n ≤ u.bs.length) : Rest u (dropB u n) := by
  refine ⟨⟨n, rfl⟩, by show (u.bs.drop n).length ≤ u.cap - n; rw [List.length_drop]; omega, fun R w h => ?_⟩
  obtain ⟨hs, h⟩ := h
  refine ⟨fun r hr => hs r (by show r ∈ byts u.bs; have hr : r ∈ byts (u.bs.drop n) := hr; simp only [byts, List.map_drop] at hr ⊢; exact List.mem_of_mem_drop hr), ?_⟩
  by_cases he : u.bs.length = n
  · exact .inl (by show byts (u.bs.drop n) = []; rw [List.drop_of_length_le (by omega)]; rfl)
  · rcases h with h | ⟨b, off, h1, h2, h3⟩
    · have h0 : u.bs.length = 0 := by rw [← byts_length, h]; rfl
      omega
    · refine .inr ⟨b, off + n, ?_, h2, fun i r hi j v hj => ?_⟩
      · show (if u.cap = n then u.base else u.base.map (·.add (n * 1))) = _
        rw [if_neg (by omega), h1, Nat.mul_one, Option.map_some, add_none]
      · have hi' : (byts u.bs)[n + i]? = some r := by
          have : (byts (u.bs.drop n))[i]? = some r := hi
          rw [← this]; simp [byts]
        have := h3 (n + i) r hi' j v hj
        rw [← this]
        congr 2
        omega
theorem slice_rest {u : RdV} {n : Nat} {z : Int} {K : SV → Prop} (hz : z = n) (hr : u.bs.length ≤ u.cap) (hn : n ≤ u.bs.length) (h : K (.c (dropB u n).val)) : sliceK u.base u.bs.length u.cap 1 (some z) none none K := by
  rw [sliceK_def]
  refine ⟨n, u.bs.length, u.cap, hz, rfl, rfl, hn, hr, Nat.le_refl _, fun h => (by cases h), ?_⟩
  have e : (dropB u n).val = .slice (if u.cap = n then u.base else u.base.map (·.add (n * 1))) (u.bs.length - n) (u.cap - n) := by
    unfold RdV.val dropB; simp only [List.length_drop]
  rw [← e]; exact h
theorem slice_first {base : Option Addr} {len cap n : Nat} {z : Int} {K : SV → Prop} (hz : z = n) (hn : n ≤ len) (hr : len ≤ cap) (h : K (.c (.slice base n cap))) : sliceK base len cap 1 none (some z) none K := by
  rw [sliceK_def]
  refine ⟨0, n, cap, rfl, hz, rfl, Nat.zero_le _, by omega, Nat.le_refl _, fun h => (by cases h), ?_⟩
  have : (if cap = 0 then base else base.map (·.add (0 * 1))) = base := by
    split
    · rfl
    · cases base <;> simp [Addr.add]
  rw [this, Nat.sub_zero, Nat.sub_zero]; exact h
/-! the number that bytes make -/
def valB (l : List Int) : Int := l.foldl (fun v c => v * 256 + c) 0
theorem valB_snoc (l : List Int) (c : Int) : valB (l ++ [c]) = valB l * 256 + c := by simp [valB]
theorem or_bytes {x y : Int} {K : Int → Prop} (hx : 0 ≤ x) (hy : 0 ≤ y) (hy2 : y ≤ 255) (hx2 : x * 256 + y ≤ 18446744073709551615) (h : K (x * 256 + y)) : bitsK .or .u64 (x * 256) y K := by
  rw [bitsK_def]
  have e : bitsOf .or .u64 (x * 256) y = x * 256 + y := by
    obtain ⟨a, rfl⟩ : ∃ a : Nat, x = a := ⟨x.toNat, by omega⟩
    obtain ⟨c, rfl⟩ : ∃ c : Nat, y = c := ⟨y.toNat, by omega⟩
    simp only [bitsOf, IntKind.bits]
    have h1 : (BitVec.ofInt 64 ((a : Int) * 256)).toNat = 2 ^ 8 * a := by
      rw [BitVec.toNat_ofInt]
      omega
    have h2 : (BitVec.ofInt 64 (c : Int)).toNat = c := by
      rw [BitVec.toNat_ofInt]
      omega
    show IntKind.u64.wrap (((BitVec.ofInt 64 ((a : Int) * 256)) ||| (BitVec.ofInt 64 (c : Int))).toNat : Int) = _
    rw [BitVec.toNat_or, h1, h2, ← Nat.two_pow_add_eq_or_of_lt (show c < 2 ^ 8 by omega)]
    have h3 : wrapK .u64 (((2 ^ 8 * a + c : Nat) : Int)) (fun z => z = (a : Int) * 256 + c) := wrap_u64 (by omega) (by omega) (by omega)
    rw [wrapK_def] at h3
    exact h3
  rw [e]; exact h
/-- reading, plain -/
def rdFail (y : Bool) (c : Int) (s : List Int × Int) : List Int × Int := (s.1, if y = true ∧ s.2 = 0 then c else s.2)
def rdNum (n : Nat) (s : List Int × Int) : Int × List Int × Int := if s.2 ≠ 0 then (0, s.1, s.2) else if s.1.length < n then (0, s.1, 2) else (valB (s.1.take n), s.1.drop n, 0)
def trueA : Asn := ⟨fun _ _ => True, fun _ _ h => h⟩
structure RdOk (T : TypeId) (w : World) (b : Nat) (u : RdV) (e : Int) : Prop where
  small : u.bs.length ≤ 1000000
  bytes : ∀ x ∈ u.bs, 0 ≤ x ∧ x ≤ 255
  room : u.bs.length ≤ u.cap
  data : (bytsD u).holds (oth w b) w
  box : w.heap[b]? = some (.cells (rcells u e).toArray T (0, 0))
/-- what such a call leaves: a value, the rest, the first thing that was wrong -/
abbrev RdPost {α : Type} (T : TypeId) (w : World) (b : Nat) (u : RdV) (val : α → Value) (f : α × List Int × Int) : Ending → World → Prop :=
  BoxPost w b T (fun x : α × RdV × Int => val x.1) (fun x => rcells x.2.1 x.2.2) (fun _ => trueA) (fun x => Rest u x.2.1 ∧ (x.1, x.2.1.bs, x.2.2) = f)
theorem rd_ends {α : Type} {T : TypeId} {w : World} {b : Nat} {u : RdV} {val : α → Value} {f : α × List Int × Int} {v : SV} {H : Heap} {S : Asn} {nx : Nat} (u' : RdV) (hr : Rest u u') (hbs : u'.bs = f.2.1) (hv : ∀ ρ, v.rf ρ = val f.1) (he : (0, Ent.box (cs (rcells u' f.2.2)) T) ∈ H)
    (hS : ∀ R w', S.holds R w' → (restA w b).holds R w') : finK ⟨w, [(0, boxL b)]⟩ v H S nx (RdPost T w b u val f) :=
  fin_of fun ρ w' hw => ⟨(f.1, u', f.2.2), ⟨hr, by rw [hbs]⟩, by rw [hv], (box_end hw hS he).1, (box_end hw hS he).2, trivial⟩
theorem callK_weak {cx : Cx} {f : FuncId} {args : List SV} {H : Heap} {S : Asn} {nx : Nat} {K : SV → Heap → Asn → Nat → Prop}
    (h : callK cx f args H S nx (fun v H' S' nx' => ∃ S2 : Asn, (∀ R w, S'.holds R w → S2.holds R w) ∧ K v H' S2 nx')) : callK cx f args H S nx K := by
  rw [callK_def] at h ⊢
  refine ⟨h.1, fun ρ w hw => (h.2 ρ w hw).mono ?_⟩
  rintro e w' ⟨v, ρ', H', S', nx', h1, h2, h3, h4, h5, S2, h6, h7⟩
  exact ⟨v, ρ', H', S2, nx', h1, h2, h3, h4, h5.sub (List.Sublist.refl _) h6, h7⟩
/-- a call of a reader's method -/
theorem call_rd {cx : Cx} {f : FuncId} {H : Heap} {S : Asn} {nx i : Nat} {K : SV → Heap → Asn → Nat → Prop} {α : Type} {T : TypeId} {u : RdV} {e : Int} {args : List SV} (mk : Value → List Value) (ha : ∀ ρ b, (ρ i).base = some ⟨b, 0, none⟩ → SV.rfs ρ args = mk (.pointer (some ⟨b, 0, none⟩))) (val : α → Value) (r : α × List Int × Int) (hi : (i, Ent.box (cs (rcells u e)) T) ∈ H) (hf : ∀ ar w, (callFunc f ar).run cx.P w = .ok (.enter f ar) w)
    (hsm : u.bs.length ≤ 1000000) (hby : ∀ x ∈ u.bs, 0 ≤ x ∧ x ≤ 255) (hrm : u.bs.length ≤ u.cap) (hS : ∀ R w', S.holds R w' → (bytsD u).holds R w')
    (hc : ∀ w' b, RdOk T w' b u e → Calls cx.P f (mk (.pointer (some ⟨b, 0, none⟩))).toArray w' (RdPost T w' b u val r))
    (h : ∀ u', Rest u u' → u'.bs = r.2.1 → K (.c (val r.1)) (setH i (.box (cs (rcells u' r.2.2)) T) H) S nx) : callK cx f args H S nx K := by
  refine callK_weak (call_box hi hf (fun x : α × RdV × Int => val x.1) (fun x => rcells x.2.1 x.2.2) (fun _ => trueA) (fun x => Rest u x.2.1 ∧ (x.1, x.2.1.bs, x.2.2) = r) ?_ (fun x hx => ⟨S, fun _ _ h => h.1, ?_⟩))
  · intro R ρ w' b hw hR hRo hρ hb
    rw [rfs_cs] at hb
    rw [ha ρ b hρ]
    exact hc w' b ⟨hsm, hby, hrm, (bytsD u).mono (hS R w' hR) hRo, hb⟩
  · obtain ⟨v, u', e'⟩ := x
    obtain ⟨h1, h2⟩ := hx
    subst h2
    exact h u' h1 rfl
/-! rows of such calls: what is known of the bytes at the beginning serves for all that is left of them -/
structure RdBase (u0 : RdV) (S : Asn) : Prop where
  small : u0.bs.length ≤ 1000000
  bytes : ∀ x ∈ u0.bs, 0 ≤ x ∧ x ≤ 255
  data : ∀ R w, S.holds R w → (bytsD u0).holds R w
theorem call_rx {cx : Cx} {f : FuncId} {H : Heap} {S : Asn} {nx i : Nat} {K : SV → Heap → Asn → Nat → Prop} {α : Type} {T : TypeId} {u0 u : RdV} {e : Int} {args : List SV} (mk : Value → List Value) (ha : ∀ ρ b, (ρ i).base = some ⟨b, 0, none⟩ → SV.rfs ρ args = mk (.pointer (some ⟨b, 0, none⟩))) (val : α → Value) (r : α × List Int × Int) (hi : (i, Ent.box (cs (rcells u e)) T) ∈ H) (hf : ∀ ar w, (callFunc f ar).run cx.P w = .ok (.enter f ar) w)
    (h0 : RdBase u0 S) (hr : Rest u0 u)
    (hc : ∀ w' b, RdOk T w' b u e → Calls cx.P f (mk (.pointer (some ⟨b, 0, none⟩))).toArray w' (RdPost T w' b u val r))
    (h : ∀ u', Rest u0 u' → u'.bs = r.2.1 → K (.c (val r.1)) (setH i (.box (cs (rcells u' r.2.2)) T) H) S nx) : callK cx f args H S nx K :=
  call_rd mk ha val r hi hf (Nat.le_trans hr.len h0.small) (hr.bytes h0.bytes) hr.room (fun R w' hS => hr.data R w' (h0.data R w' hS)) hc (fun u' h1 h2 => h u' (hr.trans h1) h2)
theorem valB_bound : ∀ {l : List Int}, (∀ x ∈ l, 0 ≤ x ∧ x ≤ 255) → 0 ≤ valB l ∧ valB l < 256 ^ l.length := by
  intro l
  induction hn : l.length generalizing l with
  | zero =>
    intro _
    have : l = [] := List.length_eq_zero_iff.1 hn
    subst this
    exact ⟨Int.le_refl _, by decide⟩
  | succ n ih =>
    intro hl
    obtain ⟨m, c, rfl⟩ : ∃ m c, l = m ++ [c] := by
      rcases List.eq_nil_or_concat l with rfl | ⟨m, c, rfl⟩
      · simp at hn
      · exact ⟨m, c, by rw [List.concat_eq_append]⟩
    have hm : m.length = n := by simp at hn; exact hn
    obtain ⟨h1, h2⟩ := ih hm (fun x hx => hl x (by simp [hx]))
    have hc := hl c (by simp)
    rw [valB_snoc, Int.pow_succ]
    omega
theorem rdNum_bound {n : Nat} {s : List Int × Int} (hn : n ≤ 4) (hb : ∀ x ∈ s.1, 0 ≤ x ∧ x ≤ 255) : 0 ≤ (rdNum n s).1 ∧ (rdNum n s).1 ≤ 4294967295 := by
  unfold rdNum
  split
  · exact ⟨Int.le_refl _, (show (0 : Int) ≤ 4294967295 by decide)⟩
  · split
    · exact ⟨Int.le_refl _, (show (0 : Int) ≤ 4294967295 by decide)⟩
    · have h := valB_bound (l := s.1.take n) (fun x hx => hb x (List.mem_of_mem_take hx))
      have hl : (s.1.take n).length = n := by rw [List.length_take]; omega
      rw [hl] at h
      refine ⟨h.1, ?_⟩
      have : n = 0 ∨ n = 1 ∨ n = 2 ∨ n = 3 ∨ n = 4 := by omega
      rcases this with rfl | rfl | rfl | rfl | rfl
      · have : valB (List.take 0 s.1) < 1 := h.2; show valB (List.take 0 s.1) ≤ _; omega
      · have : valB (List.take 1 s.1) < 256 := h.2; show valB (List.take 1 s.1) ≤ _; omega
      · have : valB (List.take 2 s.1) < 65536 := h.2; show valB (List.take 2 s.1) ≤ _; omega
      · have : valB (List.take 3 s.1) < 16777216 := h.2; show valB (List.take 3 s.1) ≤ _; omega
      · have : valB (List.take 4 s.1) < 4294967296 := h.2; show valB (List.take 4 s.1) ≤ _; omega
/-! a call that hands back a new box -/
def NewBox (w w' : World) (v : Value) (T : TypeId) (cells : List Value) : Prop := ∃ b, v = .pointer (some ⟨b, 0, none⟩) ∧ w.heap.size ≤ b ∧ w'.heap[b]? = some (.cells cells.toArray T (0, 0))
theorem newBox_of_abs {B : Base} {ρ : Nat → Loc} {nx i : Nat} {H : Heap} {S : Asn} {w : World} {cells : List Value} {T : TypeId} (h : Abs B ρ nx H S w) (hS : ∀ R w', S.holds R w' → (baseA B.w0).holds R w') (he : (i, Ent.box (cs cells) T) ∈ H) : NewBox B.w0 w ((SV.lp i 0 0 0).rf ρ) T cells := by
  obtain ⟨R, φ, h⟩ := h
  have hb := hS R w h.asn
  obtain ⟨b, h1, h2, h3⟩ := h.ent _ he
  simp only at h1
  refine ⟨b, by simp [SV.rf, h1, add_none], ?_, by rw [rfs_cs] at h3; exact h3⟩
  rcases Nat.lt_or_ge b B.w0.heap.size with hl | hl
  · exact absurd (hb b hl).1 (h.apart _ he b ((h2 b).2 rfl))
  · exact hl
theorem call_newbox {cx : Cx} {f : FuncId} {args : List SV} {H : Heap} {S : Asn} {nx : Nat} {K : SV → Heap → Asn → Nat → Prop} (hf : ∀ as w, (callFunc f as).run cx.P w = .ok (.enter f as) w) (T : TypeId) {α : Type} (cells : α → List Value) (p : α → Prop)
    (hc : ∀ ρ w, Abs cx.B ρ nx H S w → Calls cx.P f (SV.rfs ρ args).toArray w (fun e w' => ∃ x, p x ∧ ∃ v, e = .returned v ∧ Ext w w' ∧ NewBox w w' v T (cells x)))
    (h : ∀ x, p x → K (.lp nx 0 0 0) ((nx, .box (cs (cells x)) T) :: H) S (nx + 1)) : callK cx f args H S nx K := by
  rw [callK_def]
  refine ⟨hf, fun ρ w hw => (hc ρ w hw).mono ?_⟩
  rintro e w' ⟨x, hp, v, rfl, he, b, rfl, hb, hcell⟩
  have hw' := hw.ext he
  obtain ⟨R, φ, hwR⟩ := hw
  have hwR' := hwR.step (Step.of_ext he) (fun _ _ h => h) (fun _ _ _ _ h => h)
  refine ⟨.lp nx 0 0 0, upd ρ nx ⟨some ⟨b, 0, none⟩, 0⟩, _, S, nx + 1, by simp [SV.rf, upd_same, add_none], fun i hi => upd_lt hi, Nat.le_succ _, SV.lt_lp (by omega), ?_, h x hp⟩
  refine ⟨R, _, hwR'.add (e := .box (cs (cells x)) T) (l := ⟨some ⟨b, 0, none⟩, 0⟩) (F := fun y => y = b) (fun y hy => lts_cs nx _ y hy) ⟨b, rfl, fun _ => Iff.rfl, by rw [rfs_cs]; exact hcell⟩ (fun y hy hR => ?_) (fun p hp y hy hy' => ?_)⟩
  · subst hy; have := hwR.ro y hR; omega
  · subst hy'; have := Ent.size (hwR.ent p hp) hy; omega
end Go.SX
