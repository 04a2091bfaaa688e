import Derived.RangeFuncGives
import Derived.RangeFuncBox
import Derived.RangeFuncLeaves
import Derived.Maps.AppendAt
import Derived.Shelf.Abstract
import Derived.WalkKit
import Derived.OwnWalkIn
import Derived.TacticsInMore
import Derived.LoopNIn
import Derived.LoopIn
import Derived.RegionIn
import Derived.Test.YtdmkdogakbipbaaProg
import Derived.Shelf.Sort.Plain
import Derived.Shelf.Slices.CompactI
import Derived.Shelf.Slices.In.SortNone
import Derived.Test.YtdmkdogakbipbaaKLinearMade6
/- ML -/
namespace Go.Proofs.Ytdmkdogakbipbaa
open Go.SX Go.RowKit
set_option maxRecDepth 20000 in
set_option maxHeartbeats 4000000 in
theorem wbias_any (w : World) (n : NodeV) (t : IntsV) (hb : n.bias.ok w) (cnt o : Nat) (hc : cnt ≤ 64) (ho : o < cnt) (h3 : n.kind = 3 → n.bias.xs.length = cnt) (h4 : n.kind = 4 → 1 ≤ n.bias.xs.length ∧ n.bias.xs.length ≤ 64 ∧ 0 < cnt / n.bias.xs.length ∧ o / (cnt / n.bias.xs.length) < n.bias.xs.length) :
    Calls Try.prog 65 #[weigherV n t, .int .i64 o, .int .i64 cnt] w fun e w' => e = .returned (.int .i64 (biasI n cnt o)) ∧ Ext w w' := by
  have hfew := hb.few
  by_cases hk3 : n.kind = 3
  · have hB : biasI n cnt o = n.bias.xs.getD o 0 := if_pos hk3
    have hl := h3 hk3
    rw [hB]
    obtain ⟨ua, hua⟩ := hb.base (by omega)
    have hur : ∀ (R : Nat → Prop) w', (baseA w).holds R w' → RowsI w' (some ua) 1 (ints n.bias.xs) := fun R w' h => by rw [← hua]; exact rows_base h hb.rows
    refine calls_of tab tabOk Try.func65 rfl rfl rfl [] (fun _ => ⟨none, 0⟩) [.agg [.c (.int .i64 n.kind), .c (.int .i64 n.a), .c (.int .i64 n.b), .c n.shape.val, .c (.int .i64 n.lo), .c (.int .i64 n.hi), .c (.int .i64 n.size), .c n.data.val, .c n.bias.val, .c t.val], .c (.int .i64 o), .c (.int .i64 cnt)] [] (baseA w) 0 rfl rfl (by show 3 ≤ _; decide) (abs_base w) ?_
    (repeat' ((conv => whnf) <;> first | (show idxK _ _ _ _ _; refine idx_of ua o hua rfl (by omega) ?_) | (show roK _ _ _; refine ro_int hur (j := o) (by omega) ?_) | (show drawK _ _ _ _ _ _ _ _; refine draw_quiet tabOk mixed (by kernel_rfl) ?_) | (show Wp _ _ _ _ _ _ _; refine Wp.go tabOk rfl ?_) | (show @cmpK _ _ _; (first | refine cmpY ?_ | refine cmpN ?_ | (refine cmp_both ?_ ?_ <;> intro _))) | (show wrapK _ _ _; refine wrapA ?_) | (show leK _ _ _; refine leA ?_) | (show roomK _ _ _; refine roomA ?_) | (show ltK _ _ _; refine ltA ?_) | (show _ ∧ _; refine ⟨?_, ?_⟩) | (show keepK _ _ _ _ _; refine keepA ?_) | refine own_keep ?_ | refine ap_old ?_))
    all_goals (conv => whnf)
    all_goals exact ends_of (fun _ _ h => h) (fun _ => rfl) rfl
  · by_cases hk4 : n.kind = 4
    · obtain ⟨l1, l2, l3, l4⟩ := h4 hk4
      have hB : biasI n cnt o = n.bias.xs.getD (o / (cnt / n.bias.xs.length)) 0 := by rw [biasI, if_neg hk3, if_pos hk4]
      rw [hB]
      obtain ⟨ua, hua⟩ := hb.base (by omega)
      have hur : ∀ (R : Nat → Prop) w', (baseA w).holds R w' → RowsI w' (some ua) 1 (ints n.bias.xs) := fun R w' h => by rw [← hua]; exact rows_base h hb.rows
      refine calls_of tab tabOk Try.func65 rfl rfl rfl [] (fun _ => ⟨none, 0⟩) [.agg [.c (.int .i64 n.kind), .c (.int .i64 n.a), .c (.int .i64 n.b), .c n.shape.val, .c (.int .i64 n.lo), .c (.int .i64 n.hi), .c (.int .i64 n.size), .c n.data.val, .c n.bias.val, .c t.val], .c (.int .i64 o), .c (.int .i64 cnt)] [] (baseA w) 0 rfl rfl (by show 3 ≤ _; decide) (abs_base w) ?_
      (repeat' ((conv => whnf) <;> first | (show divK _ _ _ _; (first | refine div_isM (Int.natCast_ediv cnt n.bias.xs.length).symm (by omega) (by omega) (by omega) ?_ | refine div_isM (Int.natCast_ediv o (cnt / n.bias.xs.length)).symm (by omega) (by omega) (by omega) ?_)) | (show idxK _ _ _ _ _; refine idx_of ua (o / (cnt / n.bias.xs.length)) hua rfl l4 ?_) | (show roK _ _ _; refine ro_int hur (j := o / (cnt / n.bias.xs.length)) l4 ?_) | (show drawK _ _ _ _ _ _ _ _; refine draw_quiet tabOk mixed (by kernel_rfl) ?_) | (show Wp _ _ _ _ _ _ _; refine Wp.go tabOk rfl ?_) | (show @cmpK _ _ _; (first | refine cmpY ?_ | refine cmpN ?_ | (refine cmp_both ?_ ?_ <;> intro _))) | (show wrapK _ _ _; refine wrapA ?_) | (show leK _ _ _; refine leA ?_) | (show roomK _ _ _; refine roomA ?_) | (show ltK _ _ _; refine ltA ?_) | (show _ ∧ _; refine ⟨?_, ?_⟩) | (show keepK _ _ _ _ _; refine keepA ?_) | refine own_keep ?_ | refine ap_old ?_))
      all_goals (conv => whnf)
      all_goals exact ends_of (fun _ _ h => h) (fun _ => rfl) rfl
    · have hB : biasI n cnt o = 0 := by rw [biasI, if_neg hk3, if_neg hk4]
      rw [hB]
      refine calls_of tab tabOk Try.func65 rfl rfl rfl [] (fun _ => ⟨none, 0⟩) [.agg [.c (.int .i64 n.kind), .c (.int .i64 n.a), .c (.int .i64 n.b), .c n.shape.val, .c (.int .i64 n.lo), .c (.int .i64 n.hi), .c (.int .i64 n.size), .c n.data.val, .c n.bias.val, .c t.val], .c (.int .i64 o), .c (.int .i64 cnt)] [] (baseA w) 0 rfl rfl (by show 3 ≤ _; decide) (abs_base w) ?_
      (repeat' ((conv => whnf) <;> first | (show drawK _ _ _ _ _ _ _ _; refine draw_quiet tabOk mixed (by kernel_rfl) ?_) | (show Wp _ _ _ _ _ _ _; refine Wp.go tabOk rfl ?_) | (show @cmpK _ _ _; (first | refine cmpY ?_ | refine cmpN ?_ | (refine cmp_both ?_ ?_ <;> intro _))) | (show wrapK _ _ _; refine wrapA ?_) | (show leK _ _ _; refine leA ?_) | (show roomK _ _ _; refine roomA ?_) | (show ltK _ _ _; refine ltA ?_) | (show _ ∧ _; refine ⟨?_, ?_⟩) | (show keepK _ _ _ _ _; refine keepA ?_) | refine own_keep ?_ | refine ap_old ?_))
      all_goals (conv => whnf)
      all_goals exact ends_of (fun _ _ h => h) (fun _ => rfl) rfl
def rowW (n : NodeV) (t : List Int) (o : Nat) : List Int := (List.range (entries t).toNat).map fun (i : Nat) => if n.kind = 9 then wgt9 o i else wgtI n t o i
def rowsW (n : NodeV) (t : List Int) (cnt : Nat) : List (List Int) := (List.range cnt).map (rowW n t)
/-- what a node over weights, or a flat one, is, behind an input -/
structure RowsIn (n : NodeV) (t s : List Int) (cnt : Nat) : Prop where
  place : PlaceIn n [t] s t cnt
  kind : isLin n ∨ n.kind = 9
  size : 1 ≤ entries t
theorem weight_any (w : World) (n : NodeV) (t : IntsV) (s : List Int) (cnt : Nat) (h : RowsIn n t.xs s cnt) (hno : n.ok w) (ht : t.ok w) (o i : Nat) (ho : o < cnt) (hi : (i : Int) < entries t.xs) : Calls Try.prog 64 #[weigherV n t, .int .i64 o, .int .i64 i] w fun e w' => e = .returned (.int .i64 (if n.kind = 9 then wgt9 o i else wgtI n t.xs o i)) ∧ Ext w w' := by
  have hc := h.place.few
  have heb := (entries_bd t.xs).2
  rcases h.kind with hl | h9
  · have h9 : n.kind ≠ 9 := by rcases hl with g | g | g <;> omega
    rw [if_neg h9]
    rcases lin_cases h.place hl with ⟨hk, size, hsz, hdl, hbl⟩ | ⟨k0, k1, k2, k3, i1, i2, hL⟩ | ⟨i0, i1, i2, hL⟩
    · exact weight3_any w n t hno.data hk size cnt hsz hdl hbl hc.2 (by omega) o i ho (by omega)
    · exact weight4_any w n t hno ht cnt hc.2 hL o i ho hi
    · exact weight5_any w n t ht cnt hc.2 hL o i ho hi
  · rw [if_pos h9]
    exact weight9_any w n t h9 o i
theorem bias_of (w : World) (n : NodeV) (t : IntsV) (s : List Int) (cnt : Nat) (h : RowsIn n t.xs s cnt) (hno : n.ok w) (o : Nat) (ho : o < cnt) : Calls Try.prog 65 #[weigherV n t, .int .i64 o, .int .i64 cnt] w fun e w' => e = .returned (.int .i64 (biasI n cnt o)) ∧ Ext w w' := by
  have hc := h.place.few
  rcases h.kind with hl | h9
  · rcases lin_cases h.place hl with ⟨hk, size, hsz, hdl, hbl⟩ | ⟨k0, k1, k2, k3, i1, i2, hL⟩ | ⟨i0, i1, i2, hL⟩
    · exact wbias_any w n t hno.bias cnt o hc.2 ho (fun _ => hbl) (fun h4 => by omega)
    · refine wbias_any w n t hno.bias cnt o hc.2 ho (fun h3 => by have := hL.kind; omega) fun _ => ?_
      have hb := hL.bias
      have b0 := hL.b0
      have hcnt := hL.cnt
      have b2 := hL.b2
      have b3 := hL.b3
      obtain ⟨q, hq⟩ : ∃ q : Nat, (i1 - k2 + 1) * (i2 - k3 + 1) = q := Int.eq_ofNat_of_zero_le (Int.mul_nonneg (by omega) (by omega))
      have hq1 : 1 ≤ q := by
        have := Int.mul_pos (show 0 < i1 - k2 + 1 by omega) (show 0 < i2 - k3 + 1 by omega)
        omega
      have e1 : cnt = n.bias.xs.length * q := by
        rw [Int.mul_assoc, hq, ← hb, ← Int.natCast_mul] at hcnt
        exact Int.ofNat.inj hcnt
      have e2 : cnt / n.bias.xs.length = q := by rw [e1, Nat.mul_div_cancel_left _ (by omega)]
      rw [e2]
      exact ⟨by omega, by omega, hq1, (Nat.div_lt_iff_lt_mul (by omega)).2 (by rw [← e1]; exact ho)⟩
    · exact wbias_any w n t hno.bias cnt o hc.2 ho (fun h3 => by have := hL.kind; omega) (fun h4 => by have := hL.kind; omega)
  · exact wbias_any w n t hno.bias cnt o hc.2 ho (fun h3 => by omega) (fun h4 => by omega)
end Go.Proofs.Ytdmkdogakbipbaa

/- IX -/
namespace Go.Proofs.Ytdmkdogakbipbaa
open Go.SX Go.RowKit
theorem getD_memL {l : List (List Int)} {k : Nat} (h : k < l.length) : l.getD k [] ∈ l := by
  rw [List.getD_eq_getElem?_getD, List.getElem?_eq_getElem h]; exact List.getElem_mem h
def endsAt (sh : List (List Int)) (n : NodeV) (acc : List Sp) : List Int := endsA n (entries (sh.getD acc.length [])).toNat (sh.getD n.a.toNat []) (acc.getD n.a.toNat (0, 0)) (acc.getD n.b.toNat (0, 0))
def spansQ (sh : List (List Int)) : List NodeV → List Sp → Int × List Sp
  | [], acc => (0, acc)
  | n :: r, acc =>
    if foldI min (endsAt sh n acc) < -1048576 ∨ 1048576 < foldI max (endsAt sh n acc) then (5, [])
    else spansQ sh r (acc ++ [(foldI min (endsAt sh n acc), foldI max (endsAt sh n acc))])
def spansH (g : GraphV) : Int × List Sp := if (check g).1 ≠ 0 then ((check g).1, []) else spansQ (check g).2 g.l []
/-- a node of a graph that may be stands at its place -/
theorem place_in {g : GraphV} (h : (check g).1 = 0) {i : Nat} {n : NodeV} (hn : g.l[i]? = some n) : (0 ≤ n.a ∧ n.a.toNat < (check g).2.length ∧ (n.a.toNat < i ∨ n.a.toNat = 0)) ∧ (0 ≤ n.b ∧ n.b.toNat < (check g).2.length ∧ (n.b.toNat < i ∨ n.b.toNat = 0)) ∧ ∃ cnt : Nat, entries ((check g).2.getD i []) = cnt ∧ PlaceIn n ((check g).2.take i) ((check g).2.getD i []) ((check g).2.getD n.a.toNat []) cnt := by
  obtain ⟨hl1, hl24, hout, hcl, hin⟩ := check_in h
  have hpos := shapes_pos h
  obtain ⟨hlt, _⟩ := List.getElem?_eq_some_iff.1 hn
  obtain ⟨s, hs, hni⟩ := hin i n hn
  have hti : ((check g).2.take i).length = i := by rw [List.length_take, hcl]; omega
  have hform := hni.form
  rw [hti] at hform
  obtain ⟨hA, hB, _⟩ := ahead_of hform
  have hfo := formed_of hform
  have e1 : (check g).2.getD i [] = s := by rw [List.getD_eq_getElem?_getD, hs]; rfl
  rw [e1]
  refine ⟨⟨hA.1, by omega, by omega⟩, ⟨hB.1, by omega, by omega⟩, (entries s).toNat, by have := (entries_bd s).1; omega, ⟨hni, by have := (entries_bd s).1; omega, fun q hq => hpos q (List.mem_of_mem_take hq), fun hl => ?_⟩⟩
  unfold isLin at hl
  have ha := hfo.a (by omega) (by omega)
  have e2 : ((check g).2.take i).getD n.a.toNat [] = (check g).2.getD n.a.toNat [] := by
    rw [List.getD_eq_getElem?_getD, List.getD_eq_getElem?_getD, List.getElem?_take, if_pos (by omega)]
  refine ⟨e2, hpos _ (getD_memL (by omega))⟩
end Go.Proofs.Ytdmkdogakbipbaa

/- LA -/
namespace Go.Proofs.Ytdmkdogakbipbaa
open Go.RowKit Go.Maps Go.Shelf
/-- an iterator's value, for bodies that keep what lay before the loop -/
def SeqOver (F : Fence) (n : Nat) (g : Nat) (lb : Array Value) (S : List Int → Prop) (N : Nat) (w : World) : Prop :=
  ∀ (l : Nat) (J : List Int → World → Prop) (W : World), Below w.heap.size w W → (∀ pre W1, J pre W1 → Below w.heap.size w W1) →
    (∀ pre x W1, J pre W1 → pre.length < N → YieldAt F (n - 1) Try.prog l #[(Value.int .i64 x)] W1 fun e W' => e = .returned (.bool true) ∧ J (pre ++ [x]) W' ∧ KeepsWalks W1 W') →
    J [] W → CallsIn F n Try.prog g (#[.func (.yield l) #[] #[]] ++ lb) W fun e W' => (∃ v, e = .returned v) ∧ ∃ xs, S xs ∧ J xs W'
def apAssign : Code := (Code.region 2 #[{ dst := some 5, op := Op.assign (Operand.tmp 7), type := 3, pos := "iter.go:51", after := #[], guard := none }] false)
def apBody : Code := (Code.block 1 (Code.region 3 #[{ dst := some 8, op := Op.load 33 (Operand.tmp 2), type := 33, pos := "iter.go:52", after := #[], guard := none }, { dst := some 9, op := Op.move (Operand.tmp 5), type := 3, pos := "iter.go:52", after := #[], guard := none }, { dst := some 10, op := Op.buildSlice 33 1 #[(0, Operand.tmp 9)], type := 33, pos := "iter.go:52", after := #[{ on := 1, ground := Ground.data }], guard := none }, { dst := some 11, op := Op.call { callee := Callee.builtin Builtin.append, args := #[Operand.tmp 8, Operand.tmp 10], argTypes := #[33, 33] }, type := 33, pos := "iter.go:52", after := #[{ on := 0, ground := Ground.data }, { on := 2, ground := Ground.data }], guard := none }, { dst := none, op := Op.store 33 (Operand.tmp 2) (Operand.tmp 11), type := 0, pos := "iter.go:52", after := #[{ on := 3, ground := Ground.data }, { on := 3, ground := Ground.chain }, { on := 0, ground := Ground.phase }, { on := 1, ground := Ground.phase }, { on := 2, ground := Ground.phase }, { on := 3, ground := Ground.phase }], guard := none }] false))
def apRec (fn : FuncId) (sv : Value) (Bs D : Nat) (st : LoopState) (pend : Option Code) : Loop :=
  { state := st, pending := pend, fn, tmps := #[.slice none 0 0, sv, .pointer (some ⟨Bs, 0, none⟩), undef, .slice none 0 0, undef, sv, undef, undef, undef, undef, undef, undef], params := #[7], assign := apAssign, body := apBody, defers := D }

structure ApAt (w0 : World) (fn : FuncId) (sv : Value) (Bs l D : Nat) (ss : List Int) (W : World) : Prop where
  box : ∃ v, W.heap[Bs]? = some (.cells #[v] 33 (0, 0)) ∧ W.ownsRow w0.heap.size 3 1 v ss.length (ss.map (Value.int .i64)) ∧ (v = .slice none 0 0 ↔ ss = [])
  L : W.heap[l]? = some (.loop (apRec fn sv Bs D .ready none))
  K : W.heap[D]? = some (.deferred (some []))
  below : Below w0.heap.size w0 W

theorem grownBy_putObj (W : World) (l : Nat) (o : Obj) : W.grownBy (W.putObj l o) (some l) :=
  ⟨rfl, rfl, rfl, by simp, fun k _ hk => World.putObj_heap_other (fun e => hk (by rw [e]))⟩
theorem grownBy_setCell0 (W : World) (b : Nat) (v : Value) : W.grownBy (W.setCell ⟨b, 0, none⟩ v) (some b) :=
  ⟨rfl, rfl, rfl, (KeepsWalks.setCell W _ v).size, fun k _ hk => Below.heap_setCell _ _ _ k (fun e => hk (by rw [e]))⟩
theorem ownsRow_ne {W : World} {base : Nat} {e : TypeId} {size : Nat} {v : Value} {k : Nat} {xs : List Value} (h : W.ownsRow base e size v k xs) {j : Nat} {o : Obj} (hj : W.heap[j]? = some o) (hno : ∀ cur, o ≠ .cells cur e (0, 0)) :
    v.ownBlock = none ∨ v.ownBlock ≠ some j := by
  rcases h.2 with ⟨rfl, _⟩ | ⟨g, cap, cur, rfl, _, hgb, _⟩
  · exact .inl rfl
  · refine .inr fun e' => ?_
    have : g = j := by simpa [Value.ownBlock] using e'
    subst this; rw [hgb] at hj; cases hj; exact hno cur rfl
theorem cell_of_box {W : World} {B : Nat} {v : Value} {t : TypeId} (h : W.heap[B]? = some (.cells #[v] t (0, 0))) : W.cell? ⟨B, 0, none⟩ = some v ∧ W.frozen? ⟨B, 0, none⟩ = false := by
  constructor <;> simp [World.cell?, World.frozen?, h]

theorem heap_setCell_box {W : World} {B : Nat} {v : Value} {t : TypeId} (v' : Value) (h : W.heap[B]? = some (.cells #[v] t (0, 0))) : (W.setCell ⟨B, 0, none⟩ v').heap[B]? = some (.cells #[v'] t (0, 0)) := by
  obtain ⟨hlt, hk⟩ := Array.getElem?_eq_some_iff.1 h
  show (W.heap.modify B _)[B]? = _
  rw [Array.getElem?_eq_getElem (by rw [Array.size_modify]; exact hlt), Array.getElem_modify_self, hk]
  rfl
theorem ownsRow_not_walk {W : World} {base : Nat} {e : TypeId} {size : Nat} {v : Value} {k : Nat} {xs : List Value} (h : W.ownsRow base e size v k xs) : ∀ (j : Nat) (o : Obj), v.ownBlock = some j → W.heap[j]? = some o → o.isWalk = false := by
  intro j o hj ho
  rcases h.2 with ⟨rfl, _⟩ | ⟨g, cap, cur, rfl, _, hgb, _⟩
  · simp [Value.ownBlock] at hj
  · have : g = j := by simpa [Value.ownBlock] using hj
    subst this; rw [hgb] at ho; cases ho; rfl

theorem ap_info : (Try.prog.info? 3).map (fun i => (i.zero, i.size, i.bytes)) = some (some (.int .i64 0), 1, 8) := by kernel_rfl

set_option maxRecDepth 100000 in
set_option maxHeartbeats 2000000 in
theorem apYield (F : Fence) (m : Nat) (w0 : World) (fn : FuncId) (hfn : F.fn fn) (sv : Value) (Bs l D : Nat) (hBl : Bs ≠ l) (hDl : D ≠ l) (hDB : D ≠ Bs) (h0B : w0.heap.size ≤ Bs) (h0l : w0.heap.size ≤ l)
    (N : Nat) (hN : N ≤ maxLen) (hNb : N * 8 ≤ 140737488355328) (ss : List Int) (x : Int) (W : World) (h : ApAt w0 fn sv Bs l D ss W) (hlen : ss.length < N) :
    YieldAt F m Try.prog l #[(Value.int .i64 x)] W fun e W' => e = .returned (.bool true) ∧ ApAt w0 fn sv Bs l D (ss ++ [x]) W' ∧ KeepsWalks W W' := by
  obtain ⟨i0, hi, hz0, hz1, hz2⟩ := info_parts ap_info
  obtain ⟨v, hv, hrow, _⟩ := h.box
  refine ⟨fn, #[.slice none 0 0, sv, .pointer (some ⟨Bs, 0, none⟩), undef, .slice none 0 0, undef, sv, (Value.int .i64 x), undef, undef, undef, undef, undef], apAssign, apBody, by simpa [apRec] using run_yield (P := Try.prog) (args := #[(Value.int .i64 x)]) h.L rfl, roundIn_of_wpIn hfn ?_⟩
  have hl : l < W.heap.size := (Array.getElem?_eq_some_iff.1 h.L).1
  have hbr := run_beginRound (P := Try.prog) h.L rfl
  obtain ⟨W2, hW2⟩ : ∃ W2, W.putObj l (.loop { apRec fn sv Bs D .ready none with state := .busy }) = W2 := ⟨_, rfl⟩
  rw [hW2] at hbr
  have hg2 : W.grownBy W2 (some l) := by rw [← hW2]; exact grownBy_putObj _ _ _
  have hk2 : KeepsWalks W W2 := by rw [← hW2]; exact KeepsWalks.putObj _ h.L rfl
  have hv2 : W2.heap[Bs]? = some (.cells #[v] 33 (0, 0)) := by rw [← hW2]; exact (World.putObj_heap_other hBl).trans hv
  have hK2 : W2.heap[D]? = some (.deferred (some [])) := by rw [← hW2]; exact (World.putObj_heap_other hDl).trans h.K
  have hL2 : W2.heap[l]? = some (.loop { apRec fn sv Bs D .ready none with state := .busy }) := by rw [← hW2]; exact World.putObj_heap_same hl
  have hrow2 : W2.ownsRow w0.heap.size 3 1 v ss.length (ss.map (Value.int .i64)) := hrow.kept hg2 (ownsRow_ne hrow h.L (fun cur e => by cases e))
  have hb2 : Below w0.heap.size w0 W2 := h.below.grown hg2 h.below.size (fun k e => by cases e; exact h0l)
  obtain ⟨hc2, hf2⟩ := cell_of_box hv2
  have hBlt : Bs < W2.heap.size := (Array.getElem?_eq_some_iff.1 hv2).1
  have hl2 : l < W2.heap.size := (Array.getElem?_eq_some_iff.1 hL2).1
  have hDlt : D < W2.heap.size := (Array.getElem?_eq_some_iff.1 hK2).1
  have ne_of : ∀ {j : Nat} {o : Obj}, W2.heap[j]? = some o → (∀ cur, o ≠ .cells cur 3 (0, 0)) → some j ≠ v.ownBlock := fun hj hno => by
    rcases ownsRow_ne hrow2 hj hno with e | e
    · rw [e]; simp
    · exact fun e' => e e'.symm
  clear hW2
  unfold apAssign
  gi_wp2_with (rw [Oper.semAt_eq _ _ _ (fun c h => by cases h)]; go_simp; try go_bits)
  unfold apBody
  gi_wp2_with (first
    | (gi_at_builtin; refine wpListIn_append_own _ rfl _ _ 33 rfl w0.heap.size 3 i0 (.int .i64 0) 1 8 Try.underlying33 hi hz0 hz1 hz2 rfl (by decide) _ _ _ rfl (hrow2.alloc _) ⟨W2.heap.size, 0, none⟩ 1 1 [(Value.int .i64 x)] rfl rfl (cell_one_new _ _ _) (by simp [Value.oneCell']) (by omega) (by omega) (by have := hb2.size; simp; omega) ?_; intro v' w3 hown' hg3 hnil3
       have hv3 : w3.heap[Bs]? = some (.cells #[v] 33 (0, 0)) := (hg3.block Bs (by simp; omega) (ne_of hv2 (fun cur e => by cases e))).trans ((Below.heap_alloc _ _ Bs hBlt).trans hv2)
       obtain ⟨hc3, hf3⟩ := cell_of_box hv3
       obtain ⟨g', cap', cur', rfl, hbase', hgb', hr1, hr2, hr3, hr4⟩ : ∃ g' cap' cur', v' = .slice (some ⟨g', 0, none⟩) (ss.length + 1) cap' ∧ w0.heap.size ≤ g' ∧ w3.heap[g']? = some (.cells cur' 3 (0, 0)) ∧ ss.length + 1 ≤ cap' ∧ cap' ≤ maxLen ∧ cur'.size = cap' * 1 ∧ cur'.toList.take ((ss.length + 1) * 1) = ss.map (Value.int .i64) ++ [(Value.int .i64 x)] := by
         rcases hown'.2 with ⟨_, h0⟩ | h'
         · exact absurd h0 (by omega)
         · exact h'
       simp only [Act.put, List.setIfInBounds_toArray, List.set_cons_succ, List.set_cons_zero])
    | (rw [Oper.semAt_eq _ _ _ (fun c h => by cases h)]; go_simp; try go_bits))
  have hg3' : (W2.alloc (.cells #[(Value.int .i64 x)] 3)).grownBy w3 v.ownBlock := hg3
  have hL3 : w3.heap[l]? = some (.loop { apRec fn sv Bs D .ready none with state := .busy }) := (hg3'.block l (by simp; omega) (ne_of hL2 (fun cur e => by cases e))).trans ((Below.heap_alloc _ _ l hl2).trans hL2)
  have hK3 : w3.heap[D]? = some (.deferred (some [])) := (hg3'.block D (by simp; omega) (ne_of hK2 (fun cur e => by cases e))).trans ((Below.heap_alloc _ _ D hDlt).trans hK2)
  obtain ⟨w4, hw4⟩ : ∃ w4, w3.setCell ⟨Bs, 0, none⟩ (.slice (some ⟨g', 0, none⟩) (ss.length + 1) cap') = w4 := ⟨_, rfl⟩
  rw [hw4]
  have hg4 : w3.grownBy w4 (some Bs) := by rw [← hw4]; exact grownBy_setCell0 _ _ _
  have hv4 : w4.heap[Bs]? = some (.cells #[.slice (some ⟨g', 0, none⟩) (ss.length + 1) cap'] 33 (0, 0)) := by rw [← hw4]; exact heap_setCell_box _ hv3
  have hL4 : w4.heap[l]? = some (.loop { apRec fn sv Bs D .ready none with state := .busy }) := (hg4.block l (Array.getElem?_eq_some_iff.1 hL3).1 (fun e => hBl (by cases e; rfl))).trans hL3
  have hK4 : w4.heap[D]? = some (.deferred (some [])) := (hg4.block D (Array.getElem?_eq_some_iff.1 hK3).1 (fun e => hDB (by cases e; rfl))).trans hK3
  have hrow4 := hown'.kept hg4 (ownsRow_ne hown' hv3 (fun cur e => by cases e))
  have hl4 : l < w4.heap.size := (Array.getElem?_eq_some_iff.1 hL4).1
  have hb3 : Below w0.heap.size w0 w3 := (hb2.alloc hb2.size _).grown hg3' (by have := hb2.size; simp; omega) (fun k e => (hrow2.lt k e).1)
  have hb4 : Below w0.heap.size w0 w4 := hb3.grown hg4 hb3.size (fun k e => by cases e; exact h0B)
  have hk4 : KeepsWalks W w4 := ((hk2.trans (KeepsWalks.alloc _ _)).trans (KeepsWalks.of_grownBy hg3' (ownsRow_not_walk (hrow2.alloc _)))).trans (by rw [← hw4]; exact KeepsWalks.setCell _ _ _)
  clear hw4
  refine ⟨_, _, run_endRound none hL4, rfl, ⟨⟨_, (World.putObj_heap_other hBl).trans hv4, ?_, by simp⟩, World.putObj_heap_same hl4, (World.putObj_heap_other hDl).trans hK4, hb4.grown (grownBy_putObj _ _ _) hb4.size (fun k e => by cases e; exact h0l)⟩, hk4.trans (KeepsWalks.putObj _ hL4 rfl)⟩
  have := hrow4.kept (grownBy_putObj w4 l (.loop { { apRec fn sv Bs D .ready none with state := .busy } with state := if (none : Option Code).isNone then .ready else .done, pending := none })) (ownsRow_ne hrow4 hL4 (fun cur e => by cases e))
  simpa using this


set_option maxRecDepth 100000 in
set_option maxHeartbeats 2000000 in
theorem appendSeq_in (F : Fence) (n : Nat) (h11 : F.fn 113) (hro : F.round = none) (hn : 2 ≤ n) (g : Nat) (lb : Array Value) (hFg : F.fn g) (eg : ∀ args w, (callFunc g args).run Try.prog w = .ok (.enter g args) w)
    (S : List Int → Prop) (N : Nat) (hN : N ≤ maxLen) (hNb : N * 8 ≤ 140737488355328) (w : World) (hseq : SeqOver F (n - 1) g lb S N w) :
    CallsIn F n Try.prog 113 #[.slice none 0 0, .func (.func g) #[] lb] w fun e w' => ∃ (v : Value) (ss : List Int), e = .returned v ∧ S ss ∧ w'.ownsRow w.heap.size 3 1 v ss.length (ss.map (Value.int .i64)) ∧ (v = .slice none 0 0 ↔ ss = []) ∧ Below w.heap.size w w' := by
  have h1 : 1 ≤ n := by omega
  refine callsIn_of_wp_marks Try.func113 rfl h11 ?_ hro
  simp only [Try.ntmps113, List.size_toArray, List.length_cons, List.length_nil, Nat.reduceAdd, Nat.reduceSub, Array.replicate_succ, Array.replicate_zero, List.push_toArray, List.append_toArray, List.nil_append, List.cons_append]
  gi_wp2
  refine wpIn_rangeFunc ?_
  intro fn hfn
  rw [hro]
  obtain ⟨W0, hW0⟩ : ∃ W0, w.alloc (.cells #[.slice none 0 0] 33) = W0 := ⟨_, rfl⟩
  have hs0 : W0.heap.size = w.heap.size + 1 := by rw [← hW0]; simp
  have hv0 : W0.heap[w.heap.size]? = some (.cells #[.slice none 0 0] 33 (0, 0)) := by rw [← hW0]; exact World.alloc_heap_new w _
  have hb0 : Below w.heap.size w W0 := by rw [← hW0]; exact (Below.refl _ w).alloc (Nat.le_refl _) _
  rw [hW0]
  obtain ⟨W1, hW1⟩ : ∃ W1, (W0.alloc (.deferred (some []))).alloc (.loop (apRec fn (.func (.func g) #[] lb) w.heap.size W0.heap.size .ready none)) = W1 := ⟨_, rfl⟩
  have hold : ∀ k, k < W0.heap.size → W1.heap[k]? = W0.heap[k]? := fun k hk => by
    rw [← hW1]; exact (Below.heap_alloc _ _ k (by simp; omega)).trans (Below.heap_alloc _ _ k hk)
  have hb1 : Below w.heap.size w W1 := by rw [← hW1]; exact (hb0.alloc hb0.size _).alloc (by have := hb0.size; simp; omega) _
  have hs1 : W1.heap.size = W0.heap.size + 2 := by rw [← hW1]; simp
  have hM : ApAt w fn (.func (.func g) #[] lb) w.heap.size (W0.heap.size + 1) W0.heap.size [] W1 :=
    ⟨⟨_, (hold w.heap.size (by omega)).trans hv0, ⟨rfl, .inl ⟨rfl, rfl⟩⟩, by simp⟩,
     by rw [← hW1]; have := World.alloc_heap_new (W0.alloc (.deferred (some []))) (.loop (apRec fn (.func (.func g) #[] lb) w.heap.size W0.heap.size .ready none)); rwa [World.size_alloc] at this,
     by rw [← hW1]; exact (Below.heap_alloc _ _ _ (by simp)).trans (World.alloc_heap_new W0 _), hb1⟩
  refine ⟨W0.heap.size + 1, [{ target := .collected W0.heap.size, args := #[] }], W1, { target := .fn (.func g) lb, args := #[.func (.yield (W0.heap.size + 1)) #[] #[]] }, W1, g,
    #[.func (.yield (W0.heap.size + 1)) #[] #[]] ++ lb, W1, ?_, ?_, ?_, ?_, fun _ => h1, ?_⟩
  · rw [← hW1]; exact run_enterLoop_outer _ _ _ _ _
  · simp [resolve, go_sem]
  · intro f' hf'; simp [Target.leads] at hf'; subst hf'; exact hFg
  · simp [invoke, go_sem, eg]
  · refine (hseq (W0.heap.size + 1) (ApAt w fn (.func (.func g) #[] lb) w.heap.size (W0.heap.size + 1) W0.heap.size) W1 hb1 (fun _ _ h => h.below)
      (fun pre x W hJ hl => apYield F (n - 1 - 1) w fn hfn _ w.heap.size (W0.heap.size + 1) W0.heap.size (by omega) (by omega) (by omega) (Nat.le_refl _) (by omega) N hN hNb pre x W hJ hl) hM).mono ?_
    rintro e W2 ⟨⟨v0, rfl⟩, ss, hS, h2⟩
    obtain ⟨v, hv, hrow, hnil⟩ := h2.box
    have hend := run_endLoop (P := Try.prog) h2.L (by simp [apRec])
    obtain ⟨W3, hW3⟩ : ∃ W3, W2.putObj (W0.heap.size + 1) (.loop { apRec fn (.func (.func g) #[] lb) w.heap.size W0.heap.size .ready none with state := .exhausted }) = W3 := ⟨_, rfl⟩
    rw [hW3] at hend
    have hg3 : W2.grownBy W3 (some (W0.heap.size + 1)) := by rw [← hW3]; exact grownBy_putObj _ _ _
    have hv3 : W3.heap[w.heap.size]? = some (.cells #[v] 33 (0, 0)) := by rw [← hW3]; exact (World.putObj_heap_other (by omega)).trans hv
    have hK3 : W3.heap[W0.heap.size]? = some (.deferred (some [])) := by rw [← hW3]; exact (World.putObj_heap_other (by omega)).trans h2.K
    have hrow3 := hrow.kept hg3 (ownsRow_ne hrow h2.L (fun cur e => by cases e))
    have hb3 : Below w.heap.size w W3 := h2.below.grown hg3 h2.below.size (fun k e => by cases e; omega)
    obtain ⟨hc3, hf3⟩ := cell_of_box hv3
    clear hW3
    refine ⟨none, W3, hend, ?_⟩
    gi_wp2
    rw [← hs0]
    refine ⟨by simp, .inl ⟨_, _, rfl, run_takeDeferred hK3, ?_⟩⟩
    exact ⟨_, results_tmp rfl _ _ _, v, ss, rfl, hS, hrow3.kept (grownBy_putObj _ _ _) (ownsRow_ne hrow3 hK3 (fun cur e => by cases e)), hnil, hb3.grown (grownBy_putObj _ _ _) hb3.size (fun k e => by cases e; omega)⟩

end Go.Proofs.Ytdmkdogakbipbaa

/- LB -/
namespace Go.Proofs.Ytdmkdogakbipbaa
open Go.RowKit Go.Maps Go.Shelf
attribute [local go_sem] Oper.semAt_some
def upto {α : Type} (f : Nat → α) (k : Nat) : List α := (List.range k).map f
theorem upto_succ {α : Type} (f : Nat → α) (k : Nat) : upto f (k + 1) = upto f k ++ [f k] := by simp [upto, List.range_succ]
theorem upto_length {α : Type} (f : Nat → α) (k : Nat) : (upto f k).length = k := by simp [upto]
theorem upto_all (zs : List Int) : upto (fun j => zs[j]?.getD 0) zs.length = zs := by
  apply List.ext_getElem
  · simp [upto]
  · intro i h1 h2
    simp [upto, h2]

set_option maxRecDepth 100000 in
set_option maxHeartbeats 2000000 in
theorem values1_in (F : Fence) (n : Nat) (h7 : F.fn 111) (hro : F.round = none) (hn : 1 ≤ n) (l Bs n₀ b off len cap : Nat) (zs : List Int) (hreach : len * 8 ≤ 140737488351232) (hb : b < n₀) (J Jx : List Int → World → Prop)
    (hY : ∀ pre x W, J pre W → pre.length < len → YieldAt F (n - 1) Try.prog l #[.int .i64 x] W fun e W' =>
      (e = .returned (.bool true) ∧ J (pre ++ [x]) W' ∧ Below n₀ W W') ∨ (e = .returned (.bool false) ∧ Jx (pre ++ [x]) W'))
    (W : World) (hBs : W.cell? ⟨Bs, 0, none⟩ = some (.slice (some ⟨b, off, none⟩) len cap)) (hc : ∀ j, j < len → W.cell? ⟨b, off + j, none⟩ = some (.int .i64 (zs[j]?.getD 0))) (h0 : J [] W) :
    CallsIn F n Try.prog 111 #[.func (.yield l) #[] #[], .pointer (some ⟨Bs, 0, none⟩)] W fun e W' => (∃ v, e = .returned v) ∧
      ((∃ ys, ys = upto (fun j => zs[j]?.getD 0) len ∧ J ys W') ∨ (∃ pre, (∃ k, k ≤ len ∧ pre = upto (fun j => zs[j]?.getD 0) k) ∧ Jx pre W')) := by
  refine callsIn_of_wp Try.func111 rfl h7 ?_ hro
  simp only [Try.ntmps111, List.size_toArray, List.length_cons, List.length_nil, Nat.reduceAdd, Nat.reduceSub, Array.replicate_succ, Array.replicate_zero, List.push_toArray, List.append_toArray, List.nil_append, List.cons_append]
  gi_wp2
  gi_loopw [7] (fun i wr => ∃ k : Nat, k ≤ len ∧ i = .int .i64 k ∧ J (upto (fun j => zs[j]?.getD 0) k) wr ∧ Below n₀ W wr)
    (fun i _ => len - (intOf i).toNat)
  case atStart => exact ⟨0, Nat.zero_le _, rfl, h0, Below.refl _ _⟩
  case round =>
    obtain ⟨k, hk, rfl, hJs, hnx⟩ := hrel
    have hcx : k < len → wr.cell? ⟨b, off + k, none⟩ = some (.int .i64 (zs[k]?.getD 0)) := fun h => (hnx.cell (p := ⟨b, off + k, none⟩) hb).trans (hc k h)
    by_cases hlt : k < len
    · obtain ⟨fn, tmps, assign, body, hy, hR⟩ := hY _ (zs[k]?.getD 0) wr hJs (by rw [upto_length]; exact hlt)
      have hcx' := hcx hlt
      gi_wp2
      refine hR.mono ?_
      rintro e W3 (⟨rfl, hJ3, hk3⟩ | ⟨rfl, hJx3⟩)
      · -- THE ROUND GOES ON
        gi_wp2
        go_roundw
        case rel => exact ⟨k + 1, by omega, by simp, by rw [upto_succ]; exact hJ3, hnx.trans hk3⟩
        case measure => simp [intOf]; omega
      · gi_wp2
        refine bodyPost_ret (results_none rfl _ _ _) rfl ?_
        exact ⟨⟨_, rfl⟩, .inr ⟨_, ⟨k + 1, by omega, (upto_succ _ _).symm⟩, hJx3⟩⟩
    · obtain rfl : k = len := by omega
      gi_wp2
      go_end0
      exact ⟨⟨_, rfl⟩, .inl ⟨_, rfl, hJs⟩⟩

set_option maxRecDepth 100000 in
set_option maxHeartbeats 1000000 in
theorem values1_nil_in (F : Fence) (n : Nat) (h7 : F.fn 111) (hro : F.round = none) (l Bs : Nat) (J : List Int → World → Prop) (W : World) (base : Option Addr) (cap : Nat) (hBs : W.cell? ⟨Bs, 0, none⟩ = some (.slice base 0 cap)) (h0 : J [] W) :
    CallsIn F n Try.prog 111 #[.func (.yield l) #[] #[], .pointer (some ⟨Bs, 0, none⟩)] W fun e W' => (∃ v, e = .returned v) ∧ J [] W' := by
  refine callsIn_of_wp Try.func111 rfl h7 ?_ hro
  simp only [Try.ntmps111, List.size_toArray, List.length_cons, List.length_nil, Nat.reduceAdd, Nat.reduceSub, Array.replicate_succ, Array.replicate_zero, List.push_toArray, List.append_toArray, List.nil_append, List.cons_append]
  gi_wp2
  gi_loopw [7] (fun i wr => i = .int .i64 0 ∧ J [] wr) (fun _ _ => 0)
  case atStart => exact ⟨rfl, h0⟩
  case round =>
    obtain ⟨rfl, hJs⟩ := hrel
    gi_wp2
    go_end0
    exact ⟨⟨_, rfl⟩, hJs⟩
end Go.Proofs.Ytdmkdogakbipbaa

/- LC -/
namespace Go.Proofs.Ytdmkdogakbipbaa
open Go.RowKit Go.Maps Go.Shelf Go.SX
theorem below_two {B : Nat} {w a b : World} (h1 : Below B w a) (h2 : Below B w b) (hs : a.heap.size ≤ b.heap.size) : Below B a b :=
  ⟨h2.os.trans h1.os.symm, h2.tape.trans h1.tape.symm, h2.output.trans h1.output.symm, hs, fun k hk => (h2.block k hk).trans (h1.block k hk).symm⟩
/-- a slice's numbers, where they lie in one block -/
def IntsIn (w : World) (base : Option Addr) (zs : List Int) : Prop :=
  zs = [] ∨ ∃ b off, base = some ⟨b, off, none⟩ ∧ b < w.heap.size ∧ ∀ j, j < zs.length → w.cell? ⟨b, off + j, none⟩ = some (.int .i64 (zs[j]?.getD 0))
theorem IntsIn.below {w w' : World} {base : Option Addr} {zs : List Int} (h : IntsIn w base zs) (hb : Below w.heap.size w w') : IntsIn w' base zs := by
  rcases h with h | ⟨b, off, h1, h2, h3⟩
  · exact .inl h
  · exact .inr ⟨b, off, h1, Nat.lt_of_lt_of_le h2 hb.size, fun j hj => (hb.cell (p := ⟨b, off + j, none⟩) h2).trans (h3 j hj)⟩
theorem values_over (F : Fence) (n : Nat) (h7 : F.fn 111) (hro : F.round = none) (hn : 1 ≤ n) (Bs : Nat) (base : Option Addr) (cap : Nat) (zs : List Int) (hreach : zs.length * 8 ≤ 140737488351232) (w : World) (hBs : Bs < w.heap.size)
    (hc : w.cell? ⟨Bs, 0, none⟩ = some (.slice base zs.length cap)) (hI : IntsIn w base zs) :
    SeqOver F n 111 #[.pointer (some ⟨Bs, 0, none⟩)] (fun ys => ys = zs) zs.length w := fun l J W hW hJB hY h0 => by
  have hc' := (hW.cell (p := ⟨Bs, 0, none⟩) hBs).trans hc
  rcases hI with rfl | ⟨b, off, rfl, hb, hcs⟩
  · exact (values1_nil_in F n h7 hro l Bs J W base cap hc' h0).mono fun e W' ⟨he, hj⟩ => ⟨he, _, rfl, hj⟩
  · refine (values1_in F n h7 hro hn l Bs w.heap.size b off zs.length cap zs hreach hb J (fun _ _ => False) (fun pre x W1 hj hl => ?_) W hc' (fun j hj => (hW.cell (p := ⟨b, off + j, none⟩) hb).trans (hcs j hj)) h0).mono ?_
    · obtain ⟨fn, tmps, assign, body, hy, hR⟩ := hY pre x W1 hj hl
      exact ⟨fn, tmps, assign, body, hy, hR.mono fun e w' ⟨h1, h2, h3⟩ => .inl ⟨h1, h2, below_two (hJB _ _ hj) (hJB _ _ h2) h3.size⟩⟩
    · rintro e W' ⟨he, ⟨ys, rfl, hj⟩ | ⟨_, _, hf⟩⟩
      · exact ⟨he, _, upto_all zs, hj⟩
      · exact hf.elim
theorem new_of_owns {w w' : World} {v : Value} {zs : List Int} (h : w'.ownsRow w.heap.size 3 1 v zs.length (zs.map (Value.int .i64))) : NewRows w w' v 1 3 (ints zs) := by
  have hone : ∀ r ∈ ints zs, r.length = 1 ∧ ∀ v ∈ r, v.oneCell' = true := fun r hr => by
    obtain ⟨x, _, rfl⟩ := List.mem_map.1 hr
    exact ⟨rfl, fun v hv => by rw [List.mem_singleton.1 hv]; rfl⟩
  rcases h.2 with ⟨rfl, h0⟩ | ⟨g, cap, cur, rfl, hb, hg, h1, h2, h3, h4⟩
  · have hz : zs = [] := List.eq_nil_of_length_eq_zero h0
    subst hz
    exact ⟨⟨none, 0⟩, rfl, fun _ => False, fun _ h => h.elim, hone, Nat.zero_le _, .inl ⟨rfl, rfl, fun _ h => h⟩⟩
  · refine ⟨⟨some ⟨g, 0, none⟩, cap⟩, by rw [ints_length], fun x => x = g, fun b hbb => by rw [hbb]; exact hb, hone, by rw [ints_length]; exact h1, .inr ⟨g, 0, cur, rfl, fun _ => Iff.rfl, hg, by show 0 + cap * 1 ≤ cur.size; omega, fun i r hr j v hv => ?_⟩⟩
    obtain ⟨x, hx, rfl⟩ : ∃ x, zs[i]? = some x ∧ r = [.int .i64 x] := by
      rw [ints, List.getElem?_map] at hr
      cases hx : zs[i]? with
      | none => rw [hx] at hr; cases hr
      | some x => rw [hx] at hr; exact ⟨x, rfl, by simpa using hr.symm⟩
    have hj : j = 0 := by
      rcases Nat.eq_zero_or_pos j with h | h
      · exact h
      · rw [List.getElem?_eq_none (by show 1 ≤ j; exact h)] at hv; cases hv
    subst hj
    have hv' : v = .int .i64 x := by simpa using hv.symm
    subst hv'
    have hi : i < zs.length := (List.getElem?_eq_some_iff.1 hx).1
    have := congrArg (fun l : List Value => l[i]?) h4
    simp only [Nat.mul_one, List.getElem?_take_of_lt hi, List.getElem?_map, hx, Option.map_some] at this
    rw [Nat.zero_add, Nat.mul_one, Nat.add_zero, ← Array.getElem?_toList]
    exact this
set_option maxHeartbeats 1000000 in
theorem collect_any (w : World) (Bs : Nat) (base : Option Addr) (cap : Nat) (zs : List Int) (hl : zs.length ≤ 1000000) (hBs : Bs < w.heap.size) (hc : w.cell? ⟨Bs, 0, none⟩ = some (.slice base zs.length cap)) (hI : IntsIn w base zs) :
    Calls Try.prog 109 #[.func (.func 111) #[] #[.pointer (some ⟨Bs, 0, none⟩)]] w fun e w' => ∃ v, e = .returned v ∧ NewRows w w' v 1 3 (ints zs) ∧ Ext w w' := by
  refine (callsIn_wide (n := 3)).1 ?_
  have hfA : Fence.wide.fn 113 := trivial
  have hseq := values_over Fence.wide 1 trivial rfl (Nat.le_refl _) Bs base cap zs (by omega) w hBs hc hI
  refine callsIn_of_wp Try.func109 rfl trivial ?_ rfl
  simp only [Try.ntmps109, List.size_toArray, List.length_cons, List.length_nil, Nat.reduceAdd, Nat.reduceSub, Array.replicate_succ, Array.replicate_zero, List.push_toArray, List.append_toArray, List.nil_append, List.cons_append]
  gi_wp2_with (gi_at_call 113; refine (appendSeq_in Fence.wide 2 trivial rfl (Nat.le_refl _) 111 _ trivial Try.call111 _ zs.length (by show zs.length ≤ 9223372036854775807; omega) (by omega) _ hseq).mono ?_; rintro e w' ⟨v, ss, rfl, hS, hrow, hnil, hb⟩)
  go_ret
  subst hS
  exact ⟨v, rfl, new_of_owns hrow, hb⟩
theorem values_any (w : World) (base : Option Addr) (len cap : Nat) : Calls Try.prog 88 #[.slice base len cap] w fun e w' => e = .returned (.func (.func 111) #[] #[.pointer (some ⟨w.heap.size, 0, none⟩)]) ∧ w' = w.alloc (.cells #[.slice base len cap] 33) := by
  refine (callsIn_wide (n := 1)).1 ?_
  refine callsIn_of_wp Try.func88 rfl trivial ?_ rfl
  simp only [Try.ntmps88, List.size_toArray, List.length_cons, List.length_nil, Nat.reduceAdd, Nat.reduceSub, Array.replicate_succ, Array.replicate_zero, List.push_toArray, List.append_toArray, List.nil_append, List.cons_append]
  gi_wp2
  go_ret
  exact ⟨rfl, rfl⟩
end Go.Proofs.Ytdmkdogakbipbaa

/- LCa -/
namespace Go.Proofs.Ytdmkdogakbipbaa
open Go.RowKit Go.SX
theorem cell_lt {w : World} {p : Addr} {v : Value} (h : w.cell? p = some v) : p.block < w.heap.size := by
  unfold World.cell? at h
  cases hb : w.heap[p.block]? with
  | none => simp [hb] at h
  | some o => exact (Array.getElem?_eq_some_iff.1 hb).1
theorem cell_frame {w : World} {a : Addr} {v : Value} (h : w.cell? a = some v) : a = ⟨a.block, a.off, none⟩ := by
  obtain ⟨b, o, f⟩ := a
  cases f with
  | none => rfl
  | some x => simp [World.cell?] at h; split at h <;> simp at h
theorem IntsV.ok.within {w : World} {u : IntsV} (h : u.ok w) : IntsIn w u.base u.xs := by
  rcases h.rows with h0 | ⟨a, ha, hc⟩
  · exact .inl (List.eq_nil_of_length_eq_zero (by have := congrArg List.length h0; rwa [ints_length] at this))
  · rcases Nat.eq_zero_or_pos u.xs.length with h1 | h1
    · exact .inl (List.eq_nil_of_length_eq_zero h1)
    · have hcell : ∀ j, j < u.xs.length → w.cell? (a.add j) = some (.int .i64 (u.xs[j]?.getD 0)) := fun j hj => by
        have := hc j [.int .i64 u.xs[j]] (ints_get hj) 0 _ rfl
        rw [Nat.mul_one, Nat.add_zero] at this
        rw [this, List.getElem?_eq_getElem hj]; rfl
      have h2 := hcell 0 h1
      have e0 : a.add 0 = a := by simp [Addr.add]
      rw [e0] at h2
      have ea := cell_frame h2
      have e1 : ∀ j, a.add j = ⟨a.block, a.off + j, none⟩ := fun j => by
        rw [ea]; simp [Addr.add]
      exact .inr ⟨a.block, a.off, ha.trans (congrArg some ea), cell_lt h2, fun j hj => by rw [← e1]; exact hcell j hj⟩
theorem values_call {cx : Cx} {H : Heap} {S : Asn} {nx : Nat} {K : SV → Heap → Asn → Nat → Prop} (base : Option Addr) (len cap : Nat) (hP : cx.P = Try.prog)
    (h : ∀ Bs : Nat, K (.c (.func (.func 111) #[] #[.pointer (some ⟨Bs, 0, none⟩)])) H (S.and ((rowsA (some ⟨Bs, 0, none⟩) 1 [[.slice base len cap]]).past cx.B.w0.heap.size)) nx) : callK cx 88 [.c (.slice base len cap)] H S nx K := by
  obtain ⟨P, B, n, tb⟩ := cx
  simp only at hP
  subst hP
  refine call_past Try.call88 (fun Bs : Nat => .func (.func 111) #[] #[.pointer (some ⟨Bs, 0, none⟩)]) (fun Bs => rowsA (some ⟨Bs, 0, none⟩) 1 [[.slice base len cap]]) (fun _ => True) (fun ρ w' hw => (values_any w' base len cap).mono ?_) (fun Bs _ => h Bs)
  rintro e w2 ⟨rfl, rfl⟩
  refine ⟨w'.heap.size, trivial, rfl, (Below.refl _ w').alloc (Nat.le_refl _) _, fun r hr => ?_, .inr ⟨w'.heap.size, 0, rfl, ⟨Nat.le_refl _, by rw [World.size_alloc]; omega⟩, fun i r hr j v hv => ?_⟩⟩
  · rw [List.mem_singleton.1 hr]
    exact ⟨rfl, fun v hv => by rw [List.mem_singleton.1 hv]; rfl⟩
  · match i, j with
    | 0, 0 =>
      simp at hr
      subst hr
      simp at hv
      subst hv
      exact cell_one_new _ _ _ 0 _ rfl
    | i + 1, _ => simp at hr
    | 0, j + 1 =>
      simp at hr
      subst hr
      simp at hv
end Go.Proofs.Ytdmkdogakbipbaa

/- LJ -/
namespace Go.Proofs.Ytdmkdogakbipbaa
open Go.RowKit Go.SX
theorem ro_cell {a : Addr} {S : Asn} {K : SV → Prop} {v : Value} (hx : ∀ R w, S.holds R w → w.cell? a = some v) (h : K (.c v)) : roK a S K := by rw [roK_def]; exact ⟨v, hx, h⟩
/-- rows of numbers, however many -/
structure ShapesV.okB (w : World) (v : ShapesV) : Prop where
  rows : RowsI w v.base 1 (shRows v.l)
  each : ∀ s ∈ v.l, s.ok w
  few : v.l.length ≤ 1000000
theorem ShapesV.okB.later {w w' : World} {R : Nat → Prop} {v : ShapesV} (h : v.okB w) (hb : (baseA w).holds R w') : v.okB w' := ⟨rows_base hb h.rows, fun s hs => (h.each s hs).later hb, h.few⟩
theorem offLen_any (w : World) (u : IntsV) (hu : u.ok w) (p : Addr) (fb : Option Addr) (fl fc : Nat) (hc : w.cell? p = some (.slice fb fl fc)) : Calls Try.prog 62 #[u.val, .pointer (some p)] w fun e w' => e = .returned (.bool (decide (u.xs.length ≠ fl))) ∧ Ext w w' := by
  refine calls_of tab tabOk Try.func62 rfl rfl rfl [] (fun _ => ⟨none, 0⟩) [.c u.val, .c (.pointer (some p))] [] (baseA w) 0 rfl rfl (by show 2 ≤ _; decide) (abs_base w) ?_
  (repeat' ((conv => whnf) <;> first | (show roK _ _ _; (refine ro_cell (fun R w' h => by rw [cell_same (h _ (cell_block hc)).2]; exact hc) ?_)) | (show @cmpK _ _ _; ((refine cmp_both ?_ ?_ <;> intro _))) | (show Wp _ _ _ _ _ _ _; refine Wp.go tabOk rfl ?_) | (show @cmpK _ _ _; (first | refine cmpY ?_ | refine cmpN ?_ | (refine cmp_both ?_ ?_ <;> intro _))) | (show wrapK _ _ _; refine wrapA ?_) | (show leK _ _ _; refine leA ?_) | (show roomK _ _ _; refine roomA ?_) | (show ltK _ _ _; refine ltA ?_) | (show _ ∧ _; refine ⟨?_, ?_⟩) | (show keepK _ _ _ _ _; refine keepA ?_) | refine own_keep ?_ | refine ap_old ?_))
  all_goals (conv => whnf)
  all_goals first | exact ends_bool (fun _ _ h => h) rfl (decide_eq_true (by omega)) | exact ends_bool (fun _ _ h => h) rfl (decide_eq_false (by omega))
def offs (l : List IntsV) (fl : Nat) (i : Nat) : Prop := ∀ k, k < i → ∀ h : k < l.length, l[k].xs.length = fl
set_option maxHeartbeats 1000000 in
theorem indexOff_any (w : World) (rv : ShapesV) (hr : rv.okB w) (p : Addr) (fb : Option Addr) (fl fc : Nat) (hc : w.cell? p = some (.slice fb fl fc)) : Calls Try.prog 90 #[rv.val, .func (.func 62) #[] #[.pointer (some p)]] w fun e w' => (∃ k : Int, e = .returned (.int .i64 k) ∧ (0 ≤ k ↔ rv.l.any (fun u => decide (u.xs.length ≠ fl)) = true)) ∧ Ext w w' := by
  have hf := hr.few
  refine calls_of tab tabOk Try.func90 rfl rfl rfl [] (fun _ => ⟨none, 0⟩) [.c rv.val, .c (.func (.func 62) #[] #[.pointer (some p)])] [] (baseA w) 0 rfl rfl (by show 2 ≤ _; decide) (abs_base w) ?_
  (repeat' ((conv => whnf) <;> first | (show Wp _ _ _ _ _ _ _; refine Wp.go tabOk rfl ?_) | (show @cmpK _ _ _; (first | refine cmpY ?_ | refine cmpN ?_ | (refine cmp_both ?_ ?_ <;> intro _))) | (show wrapK _ _ _; refine wrapA ?_) | (show leK _ _ _; refine leA ?_) | (show roomK _ _ _; refine roomA ?_) | (show ltK _ _ _; refine ltA ?_) | (show _ ∧ _; refine ⟨?_, ?_⟩) | (show keepK _ _ _ _ _; refine keepA ?_) | refine own_keep ?_ | refine ap_old ?_))
  refine Wp.loop (σ := Nat) 0 (fun i => [(0, .c rv.val), (1, .c (.func (.func 62) #[] #[.pointer (some p)])), (7, .c (.int .i64 rv.l.length)), (8, .c (.int .i64 i))]) (fun _ => []) (fun _ => baseA w)
    (fun i => offs rv.l fl i) (fun i => rv.l.length - i) 0 [] (by decide) (fun s => ⟨rfl, rfl⟩) (fun k hk => absurd hk (Nat.not_lt_zero k)) ⟨rfl, ⟨rfl, rfl, rfl, rfl, trivial⟩, trivial, fun _ _ h => h⟩ ?_
  intro i hi
  by_cases hlt : i < rv.l.length
  · obtain ⟨ra, hra⟩ : ∃ a, rv.base = some a := base_some (j := i) hr.rows (by rw [shRows_length]; exact hlt)
    have hou := hr.each rv.l[i] (List.getElem_mem hlt)
    by_cases hne : rv.l[i].xs.length = fl
    · (repeat' ((conv => whnf) <;> first | (show idxK _ _ _ _ _; refine idx_of ra i hra rfl hlt ?_) | (show roK _ _ _; (refine ro_row0 (fun R w' h => by rw [← hra]; exact rows_base h hr.rows) _ _ (shRows_get hlt) rfl ?_)) | (show callK _ 62 _ _ _ _ _; (refine call_pure (f := 62) Try.call62 (.bool false) (fun ρ w' hw => by have := offLen_any w' rv.l[i] (holds_of_abs hw fun R h => hou.later h) p fb fl fc (holds_of_abs hw fun R h => by rw [cell_same (h _ (cell_block hc)).2]; exact hc); rw [decide_eq_false (by omega)] at this; exact this) ?_)) | (show Wp _ _ _ _ _ _ _; refine Wp.go tabOk rfl ?_) | (show @cmpK _ _ _; (first | refine cmpY ?_ | refine cmpN ?_ | (refine cmp_both ?_ ?_ <;> intro _))) | (show wrapK _ _ _; refine wrapA ?_) | (show leK _ _ _; refine leA ?_) | (show roomK _ _ _; refine roomA ?_) | (show ltK _ _ _; refine ltA ?_) | (show _ ∧ _; refine ⟨?_, ?_⟩) | (show keepK _ _ _ _ _; refine keepA ?_) | refine own_keep ?_ | refine ap_old ?_))
      all_goals (conv => whnf)
      all_goals refine ⟨i + 1, [], fun k hk h => ?_, by omega, rfl, ⟨rfl, rfl, rfl, rfl, trivial⟩, trivial, fun _ _ h => h⟩
      rcases Nat.lt_or_ge k i with h1 | h1
      · exact hi k h1 h
      · obtain rfl : k = i := by omega
        exact hne
    · (repeat' ((conv => whnf) <;> first | (show idxK _ _ _ _ _; refine idx_of ra i hra rfl hlt ?_) | (show roK _ _ _; (refine ro_row0 (fun R w' h => by rw [← hra]; exact rows_base h hr.rows) _ _ (shRows_get hlt) rfl ?_)) | (show callK _ 62 _ _ _ _ _; (refine call_pure (f := 62) Try.call62 (.bool true) (fun ρ w' hw => by have := offLen_any w' rv.l[i] (holds_of_abs hw fun R h => hou.later h) p fb fl fc (holds_of_abs hw fun R h => by rw [cell_same (h _ (cell_block hc)).2]; exact hc); rw [decide_eq_true (by omega)] at this; exact this) ?_)) | (show Wp _ _ _ _ _ _ _; refine Wp.go tabOk rfl ?_) | (show @cmpK _ _ _; (first | refine cmpY ?_ | refine cmpN ?_ | (refine cmp_both ?_ ?_ <;> intro _))) | (show wrapK _ _ _; refine wrapA ?_) | (show leK _ _ _; refine leA ?_) | (show roomK _ _ _; refine roomA ?_) | (show ltK _ _ _; refine ltA ?_) | (show _ ∧ _; refine ⟨?_, ?_⟩) | (show keepK _ _ _ _ _; refine keepA ?_) | refine own_keep ?_ | refine ap_old ?_))
      all_goals (conv => whnf)
      refine fin_of fun ρ w' hw => ⟨⟨i, rfl, fun _ => List.any_eq_true.2 ⟨rv.l[i], List.getElem_mem hlt, by simpa using hne⟩, fun _ => by omega⟩, ext_of_abs hw (fun _ _ h => h)⟩
  · (repeat' ((conv => whnf) <;> first | (show Wp _ _ _ _ _ _ _; refine Wp.go tabOk rfl ?_) | (show @cmpK _ _ _; (first | refine cmpY ?_ | refine cmpN ?_ | (refine cmp_both ?_ ?_ <;> intro _))) | (show wrapK _ _ _; refine wrapA ?_) | (show leK _ _ _; refine leA ?_) | (show roomK _ _ _; refine roomA ?_) | (show ltK _ _ _; refine ltA ?_) | (show _ ∧ _; refine ⟨?_, ?_⟩) | (show keepK _ _ _ _ _; refine keepA ?_) | refine own_keep ?_ | refine ap_old ?_))
    all_goals (conv => whnf)
    refine fin_of fun ρ w' hw => ⟨⟨-1, rfl, fun h => absurd h (by decide), fun h => ?_⟩, ext_of_abs hw (fun _ _ h => h)⟩
    obtain ⟨u, hu, hx⟩ := List.any_eq_true.1 h
    obtain ⟨k, hk, rfl⟩ := List.mem_iff_getElem.1 hu
    exact absurd (hi k (by omega) hk) (by simpa using hx)
theorem containsOff_any (w : World) (rv : ShapesV) (hr : rv.okB w) (p : Addr) (fb : Option Addr) (fl fc : Nat) (hc : w.cell? p = some (.slice fb fl fc)) : Calls Try.prog 61 #[rv.val, .func (.func 62) #[] #[.pointer (some p)]] w fun e w' => e = .returned (.bool (rv.l.any fun u => decide (u.xs.length ≠ fl))) ∧ Ext w w' := by
  refine calls_of tab tabOk Try.func61 rfl rfl rfl [] (fun _ => ⟨none, 0⟩) [.c rv.val, .c (.func (.func 62) #[] #[.pointer (some p)])] [] (baseA w) 0 rfl rfl (by show 2 ≤ _; decide) (abs_base w) ?_
  (repeat' ((conv => whnf) <;> first | (show callK _ 90 _ _ _ _ _; refine call_some (f := 90) Try.call90 (fun k : Int => .int .i64 k) (fun k => 0 ≤ k ↔ rv.l.any (fun u => decide (u.xs.length ≠ fl)) = true) (fun ρ w' hw => ?_) (fun k hk => ?_)) | (show Wp _ _ _ _ _ _ _; refine Wp.go tabOk rfl ?_) | (show @cmpK _ _ _; (first | refine cmpY ?_ | refine cmpN ?_ | (refine cmp_both ?_ ?_ <;> intro _))) | (show wrapK _ _ _; refine wrapA ?_) | (show leK _ _ _; refine leA ?_) | (show roomK _ _ _; refine roomA ?_) | (show ltK _ _ _; refine ltA ?_) | (show _ ∧ _; refine ⟨?_, ?_⟩) | (show keepK _ _ _ _ _; refine keepA ?_) | refine own_keep ?_ | refine ap_old ?_))
  · refine (indexOff_any w' rv (holds_of_abs hw fun R h => hr.later h) p fb fl fc (holds_of_abs hw fun R h => by rw [cell_same (h _ (cell_block hc)).2]; exact hc)).mono ?_
    rintro e w2 ⟨⟨k, h1, h2⟩, h3⟩
    exact ⟨k, h2, h1, h3⟩
  all_goals (conv => whnf)
  all_goals rename_i h0
  · exact ends_bool (fun _ _ h => h) rfl (hk.1 h0)
  · exact ends_bool (fun _ _ h => h) rfl (Bool.eq_false_iff.2 fun h => h0 (hk.2 h))
end Go.Proofs.Ytdmkdogakbipbaa

/- LK -/
namespace Go.Proofs.Ytdmkdogakbipbaa
open Go.Shelf
def sort_ren : Go.Shelf.Ren := ⟨fun | 189 => 110 | 125 => 115 | 257 => 114 | 128 => 125 | 129 => 126 | 294 => 116 | 295 => 117 | 296 => 118 | 297 => 119 | 298 => 120 | 299 => 121 | 216 => 122 | 300 => 123 | 301 => 124 | 328 => 127 | 329 => 128 | 330 => 129 | 331 => 130 | 332 => 131 | 215 => 132 | 343 => 133 | n => n, fun | 28 => 33 | 3 => 3 | 46 => 137 | 0 => 0 | 51 => 147 | 53 => 149 | 4 => 4 | 183 => 140 | 182 => 139 | 131 => 144 | 5 => 5 | 9 => 9 | 218 => 150 | 222 => 154 | 228 => 156 | 229 => 157 | n => n, fun | n => n⟩
theorem sortLays : Go.Proofs.Lays.n189 Try.prog sort_ren := {
  mixed := by kernel_rfl
  f125 := Try.func115.trans (congrArg some (by kernel_rfl))
  f128 := Try.func125.trans (congrArg some (by kernel_rfl))
  f129 := Try.func126.trans (congrArg some (by kernel_rfl))
  f189 := Try.func110.trans (congrArg some (by kernel_rfl))
  f215 := Try.func132.trans (congrArg some (by kernel_rfl))
  f216 := Try.func122.trans (congrArg some (by kernel_rfl))
  f257 := Try.func114.trans (congrArg some (by kernel_rfl))
  f294 := Try.func116.trans (congrArg some (by kernel_rfl))
  f295 := Try.func117.trans (congrArg some (by kernel_rfl))
  f296 := Try.func118.trans (congrArg some (by kernel_rfl))
  f297 := Try.func119.trans (congrArg some (by kernel_rfl))
  f298 := Try.func120.trans (congrArg some (by kernel_rfl))
  f299 := Try.func121.trans (congrArg some (by kernel_rfl))
  f300 := Try.func123.trans (congrArg some (by kernel_rfl))
  f301 := Try.func124.trans (congrArg some (by kernel_rfl))
  f328 := Try.func127.trans (congrArg some (by kernel_rfl))
  f329 := Try.func128.trans (congrArg some (by kernel_rfl))
  f330 := Try.func129.trans (congrArg some (by kernel_rfl))
  f331 := Try.func130.trans (congrArg some (by kernel_rfl))
  f332 := Try.func131.trans (congrArg some (by kernel_rfl))
  f343 := Try.func133.trans (congrArg some (by kernel_rfl))
  t0 := Try.underlying0
  a0 := Try.isAgg0
  z0 := Try.sizeOf0
  v0 := Try.zeroValue0
  t3 := Try.underlying3
  a3 := Try.isAgg3
  z3 := Try.sizeOf3
  v3 := Try.zeroValue3
  t4 := Try.underlying4
  a4 := Try.isAgg4
  z4 := Try.sizeOf4
  v4 := Try.zeroValue4
  t5 := Try.underlying5
  a5 := Try.isAgg5
  z5 := Try.sizeOf5
  v5 := Try.zeroValue5
  t9 := Try.underlying9
  a9 := Try.isAgg9
  z9 := Try.sizeOf9
  v9 := Try.zeroValue9
  t28 := Try.underlying33
  a28 := Try.isAgg33
  z28 := Try.sizeOf33
  v28 := Try.zeroValue33
  t46 := Try.underlying137
  a46 := Try.isAgg137
  z46 := Try.sizeOf137
  v46 := Try.zeroValue137
  t51 := Try.underlying147
  a51 := Try.isAgg147
  z51 := Try.sizeOf147
  v51 := Try.zeroValue147
  t53 := Try.underlying149
  a53 := Try.isAgg149
  z53 := Try.sizeOf149
  v53 := Try.zeroValue149
  t131 := Try.underlying144
  a131 := Try.isAgg144
  z131 := Try.sizeOf144
  v131 := Try.zeroValue144
  t182 := Try.underlying139
  a182 := Try.isAgg139
  z182 := Try.sizeOf139
  v182 := Try.zeroValue139
  t183 := Try.underlying140
  a183 := Try.isAgg140
  z183 := Try.sizeOf140
  v183 := Try.zeroValue140
  t218 := Try.underlying150
  a218 := Try.isAgg150
  z218 := Try.sizeOf150
  v218 := Try.zeroValue150
  t222 := Try.underlying154
  a222 := Try.isAgg154
  z222 := Try.sizeOf154
  v222 := Try.zeroValue154
  t228 := Try.underlying156
  a228 := Try.isAgg156
  z228 := Try.sizeOf156
  v228 := Try.zeroValue156
  t229 := Try.underlying157
  a229 := Try.isAgg157
  z229 := Try.sizeOf157
  v229 := Try.zeroValue157 }
def comp_ren : Go.Shelf.Ren := ⟨fun | 20 => 89 | n => n, fun | 22 => 33 | 3 => 3 | 4 => 4 | 0 => 0 | n => n, fun | n => n⟩
theorem compLays : Go.Proofs.Lays2.n20 Try.prog comp_ren := {
  mixed := by kernel_rfl
  f20 := Try.func89.trans (congrArg some (by kernel_rfl))
  t0 := Try.underlying0
  a0 := Try.isAgg0
  z0 := Try.sizeOf0
  v0 := Try.zeroValue0
  t3 := Try.underlying3
  a3 := Try.isAgg3
  z3 := Try.sizeOf3
  v3 := Try.zeroValue3
  t4 := Try.underlying4
  a4 := Try.isAgg4
  z4 := Try.sizeOf4
  v4 := Try.zeroValue4
  t22 := Try.underlying33
  a22 := Try.isAgg33
  z22 := Try.sizeOf33
  v22 := Try.zeroValue33
  i3 := by kernel_rfl }
end Go.Proofs.Ytdmkdogakbipbaa

/- LL -/
namespace Go.Proofs.Ytdmkdogakbipbaa
open Go.RowKit Go.SX Go.Sort
theorem heap_put {w : World} {g off n : Nat} {os : Array Obj} {cur : Array Value} {e : TypeId} {fr : Nat × Nat} (d : Array Int) (hb : w.heap[g]? = some (.cells cur e fr)) :
    (grow (putRow (Value.int .i64) (Sort.ahead w n) g off d) os).heap[g]? = some (.cells (putCells (Value.int .i64) off d cur) e fr) := by
  have hg : g < w.heap.size := (Array.getElem?_eq_some_iff.1 hb).1
  rw [heap_grow_old _ _ (by simpa using hg)]
  simp [putRow, mapBlock, Sort.ahead, Array.getElem?_modify, hb, onCells]
theorem step_put {w : World} {g off n : Nat} {os : Array Obj} (d : Array Int) {F : Nat → Prop} (hF : ∀ x, F x ↔ x = g) : Step F w (grow (putRow (Value.int .i64) (Sort.ahead w n) g off d) os) := by
  refine ⟨rfl, rfl, rfl, by simp, fun k hk hne => ?_⟩
  rw [heap_grow_old _ _ (by simpa using hk)]
  have : g ≠ k := fun e => hne ((hF k).2 e.symm)
  simp [putRow, mapBlock, Sort.ahead, Array.getElem?_modify, this]
theorem get_put {off : Nat} {zs : List Int} {cur : Array Value} {i : Nat} (hi : i < zs.length) (hc : off + zs.length ≤ cur.size) : (putCells (Value.int .i64) off zs.toArray cur)[off + i]? = some (.int .i64 zs[i]) := by
  have h1 : off + i < cur.size := by omega
  simp [putCells, h1, hi]
/-- own rows and what the shelf's contracts ask of them -/
theorem holds_own {w : World} {b off : Nat} {c : Array Value} {T : TypeId} {xs : List Int} (hh : w.heap[b]? = some (.cells c T (0, 0))) (hc : ∀ i r, (ints xs)[i]? = some r → ∀ j v, r[j]? = some v → c[off + i * 1 + j]? = some v) : Holds (Value.int .i64) w b off xs.toArray := by
  intro j hj
  have hj' : j < xs.length := by simpa using hj
  have := hc j _ (ints_get hj') 0 _ rfl
  rw [Nat.mul_one, Nat.add_zero] at this
  constructor
  · simp only [World.cell?, hh]
    simp [this, hj']
  · simp [World.frozen?, hh]
theorem call_put {cx : Cx} {f : FuncId} {H : Heap} {S : Asn} {nx i m : Nat} {T : TypeId} {xs ys : List Int} {K : SV → Heap → Asn → Nat → Prop} (hf : ∀ ar w, (callFunc f ar).run cx.P w = .ok (.enter f ar) w) (hi : (i, Ent.rows (ints xs) 1 T) ∈ H) (hm : m = xs.length) (hy : ys.length = xs.length) (res : SX.Loc → Value) (u : SV) (hu : u.lt nx) (hres : ∀ ρ, u.rf ρ = res (ρ i))
    (h0 : ∀ cap w, xs = [] → Calls cx.P f #[.slice none 0 cap] w fun e w' => e = .returned (res ⟨none, cap⟩) ∧ w' = w)
    (hc : ∀ b off cap w, Holds (Value.int .i64) w b off xs.toArray → b < w.heap.size → xs.length ≤ cap → Calls cx.P f #[.slice (some ⟨b, off, none⟩) xs.length cap] w fun e w' => e = .returned (res ⟨some ⟨b, off, none⟩, cap⟩) ∧ ∃ n os, w' = grow (putRow (Value.int .i64) (Sort.ahead w n) b off ys.toArray) os)
    (h : K u (setH i (.rows (ints ys) 1 T) H) S nx) : callK cx f [.os i m] H S nx K := by
  rw [callK_def]
  refine ⟨hf, fun ρ w hw => ?_⟩
  subst hm
  have hA := hw
  obtain ⟨R, φ, hw⟩ := hw
  have hent := hw.ent _ hi
  obtain ⟨hr, hcap, hent⟩ := hent
  rw [ints_length] at hcap
  simp only at hcap
  have hargs : (SV.rfs ρ [.os i xs.length]).toArray = #[.slice (ρ i).base xs.length (ρ i).cap] := rfl
  rw [hargs]
  rcases hent with ⟨hb, hc0, hF⟩ | ⟨b, off, c, hb, hF, hh, hsz, hcell⟩
  · simp only at hb hc0
    have hx : xs = [] := List.eq_nil_of_length_eq_zero (by omega)
    have hy0 : ys = [] := List.eq_nil_of_length_eq_zero (by rw [hy, hx]; rfl)
    subst hx hy0
    rw [hb]
    refine (h0 (ρ i).cap w rfl).mono ?_
    rintro e w' ⟨rfl, rfl⟩
    refine ⟨u, ρ, _, S, nx, ?_, fun _ _ => rfl, Nat.le_refl _, hu, Abs.store hA hi (fun y hy => by simp [Ent.hass] at hy) fun F hF' => ⟨⟨rfl, rfl, rfl, Nat.le_refl _, fun _ _ _ => rfl⟩, hF'⟩, h⟩
    rw [hres, ← hb]
  · simp only at hb hF hsz
    rw [hb]
    have hH := holds_own hh hcell
    have hbl := (Array.getElem?_eq_some_iff.1 hh).1
    refine (hc b off (ρ i).cap w hH hbl hcap).mono ?_
    rintro e w' ⟨rfl, n, os, rfl⟩
    refine ⟨u, ρ, _, S, nx, by rw [hres, ← hb], fun _ _ => rfl, Nat.le_refl _, hu, Abs.store hA hi (fun y hy => by simp [Ent.hass] at hy) fun F hF' => ?_, h⟩
    obtain ⟨_, _, hF2⟩ := hF'
    rcases hF2 with ⟨g1, _, _⟩ | ⟨b', off', c', g1, g2, g3, g4, g5⟩
    · rw [hb] at g1; cases g1
    · rw [hb] at g1
      simp only [Option.some.injEq, Addr.mk.injEq, and_true] at g1
      obtain ⟨rfl, rfl⟩ := g1
      rw [hh] at g3
      obtain rfl : c = c' := by simpa using g3
      refine ⟨step_put _ g2, ints_row, by rw [ints_length, hy]; exact hcap, .inr ⟨b, off, _, hb, g2, heap_put _ hh, by simpa [putCells] using hsz, fun k r hk j v hj => ?_⟩⟩
      have hkl : k < ys.length := by
        have := (List.getElem?_eq_some_iff.1 hk).1
        rwa [ints_length] at this
      rw [ints_get hkl] at hk
      obtain rfl : [Value.int .i64 ys[k]] = r := by simpa using hk
      have hj0 : j = 0 := by
        rcases Nat.eq_zero_or_pos j with h | h
        · exact h
        · rw [List.getElem?_eq_none (by show 1 ≤ j; exact h)] at hj; cases hj
      subst hj0
      obtain rfl : Value.int .i64 ys[k] = v := by simpa using hj
      rw [Nat.mul_one, Nat.add_zero]
      exact get_put hkl (by have : off + (ρ i).cap * 1 ≤ c.size := hsz; omega)
end Go.Proofs.Ytdmkdogakbipbaa

/- LM -/
namespace Go.Proofs.Ytdmkdogakbipbaa
open Go.RowKit Go.SX Go.Sort
def placesL (l : List Int) (slots : Int) : Bool := decide ((∀ x ∈ l, 0 ≤ x ∧ x < slots) ∧ l.Nodup)
def srt (zs : List Int) : List Int := zs.mergeSort fun x y => decide (x ≤ y)
theorem srt_perm (zs : List Int) : (srt zs).Perm zs := List.mergeSort_perm _ _
theorem srt_length (zs : List Int) : (srt zs).length = zs.length := (srt_perm zs).length_eq
theorem srt_sorted (zs : List Int) : ∀ i j (h1 : i < (srt zs).length) (h2 : j < (srt zs).length), i < j → (srt zs)[i] ≤ (srt zs)[j] := by
  have h := List.pairwise_mergeSort (le := fun x y : Int => decide (x ≤ y)) (fun a b c h1 h2 => by simp at *; omega) (fun a b => by simp; omega) zs
  rw [List.pairwise_iff_getElem] at h
  intro i j h1 h2 hij
  exact of_decide_eq_true (h i j h1 h2 hij)
theorem compact_length (s : List Int) : (Lib.compact s).length = s.length ↔ ∀ j (h : j < s.length), j = 0 ∨ s[j] ≠ s[j - 1]'(by omega) := by
  have e : (Lib.compact s).length = ((List.range s.length).filter (Lib.keeps s.toArray)).length := by simp [Lib.compact, Lib.compactUpTo]
  rw [e]
  have e2 := List.length_filter_eq_length_iff (l := List.range s.length) (p := Lib.keeps s.toArray)
  rw [List.length_range] at e2
  rw [e2]
  simp only [List.mem_range, Lib.keeps, decide_eq_true_eq]
  constructor
  · intro h j hj
    rcases h j hj with h | h
    · exact .inl h
    · refine .inr ?_
      have h1 : j - 1 < s.length := by omega
      simpa [hj, h1] using h
  · intro h j hj
    rcases h j hj with h | h
    · exact .inl h
    · refine .inr ?_
      have h1 : j - 1 < s.length := by omega
      simpa [hj, h1] using h
theorem nodup_srt (zs : List Int) : (∀ j (h : j < (srt zs).length), j = 0 ∨ (srt zs)[j] ≠ (srt zs)[j - 1]'(by omega)) ↔ zs.Nodup := by
  rw [← (srt_perm zs).nodup_iff]
  constructor
  · intro h
    rw [List.Nodup, List.pairwise_iff_getElem]
    intro i j hi hj hij e
    have h1 := (h j hj).resolve_left (by omega)
    have h2 := srt_sorted zs (j - 1) j (by omega) hj (by omega)
    rcases Nat.lt_or_ge i (j - 1) with g | g
    · have := srt_sorted zs i (j - 1) hi (by omega) g
      omega
    · have : i = j - 1 := by omega
      subst this
      exact h1 e.symm
  · intro h j hj
    rw [List.Nodup, List.pairwise_iff_getElem] at h
    rcases Nat.eq_zero_or_pos j with g | g
    · exact .inl g
    · exact .inr fun e => h (j - 1) j (by omega) hj (by omega) e.symm
theorem places_empty (slots : Int) : placesL [] slots = true := by simp [placesL]
theorem places_plain {zs : List Int} (slots : Int) (hz : 0 < zs.length) : placesL zs slots = true ↔ 0 ≤ (srt zs).getD 0 0 ∧ (srt zs).getD (zs.length - 1) 0 < slots ∧ (Lib.compact (srt zs)).length = zs.length := by
  have hl := srt_length zs
  rw [show (Lib.compact (srt zs)).length = zs.length ↔ zs.Nodup from by rw [← srt_length zs, compact_length, nodup_srt]]
  rw [placesL, decide_eq_true_eq, ← and_assoc]
  refine and_congr_left fun _ => ?_
  have e0 : (srt zs).getD 0 0 = (srt zs)[0] := by simp [List.getD, show 0 < (srt zs).length by omega]
  have e1 : (srt zs).getD (zs.length - 1) 0 = (srt zs)[zs.length - 1] := by simp [List.getD, show zs.length - 1 < (srt zs).length by omega]
  rw [e0, e1]
  constructor
  · intro h
    exact ⟨(h _ ((srt_perm zs).mem_iff.1 (List.getElem_mem _))).1, (h _ ((srt_perm zs).mem_iff.1 (List.getElem_mem _))).2⟩
  · rintro ⟨h1, h2⟩ x hx
    obtain ⟨k, hk, rfl⟩ := List.mem_iff_getElem.1 ((srt_perm zs).mem_iff.2 hx)
    constructor
    · rcases Nat.eq_zero_or_pos k with g | g
      · subst g; exact h1
      · have := srt_sorted zs 0 k (by omega) hk g; omega
    · rcases Nat.lt_or_ge k (zs.length - 1) with g | g
      · have := srt_sorted zs k (zs.length - 1) hk (by omega) g; omega
      · have : k = zs.length - 1 := by omega
        subst this; exact h2
end Go.Proofs.Ytdmkdogakbipbaa

/- LN -/
namespace Go.Proofs.Ytdmkdogakbipbaa
open Go.RowKit Go.SX Go.Sort
/-- slices.Sort of one's own numbers -/
theorem call_sort {cx : Cx} (hP : cx.P = Try.prog) {H : Heap} {S : Asn} {nx i m : Nat} {T : TypeId} {xs : List Int} {K : SV → Heap → Asn → Nat → Prop} (hi : (i, Ent.rows (ints xs) 1 T) ∈ H) (hm : m = xs.length) (hl : xs.length ≤ 1000000)
    (h : K (.c (.tuple #[])) (setH i (.rows (ints (srt xs)) 1 T) H) S nx) : callK cx 110 [.os i m] H S nx K := by
  obtain ⟨P, B, n, tb⟩ := cx
  simp only at hP
  subst hP
  refine call_put Try.call110 hi hm (srt_length xs) (fun _ => .tuple #[]) (.c (.tuple #[])) (SV.lt_c _) (fun _ => rfl) (fun cap w hx => ?_) (fun b off cap w hH hb hc => ?_) h
  · exact Any.slices_Sort_int_none sortLays none cap w
  · exact Any.slices_Sort_int sortLays b off cap xs w hH hb (by omega)
/-- slices.Compact of one's own numbers -/
theorem call_compact {cx : Cx} (hP : cx.P = Try.prog) {H : Heap} {S : Asn} {nx i m : Nat} {T : TypeId} {xs : List Int} {K : SV → Heap → Asn → Nat → Prop} (hi : (i, Ent.rows (ints xs) 1 T) ∈ H) (hin : i < nx) (hm : m = xs.length) (hl : xs.length ≤ 1000000)
    (h : ∀ ys, K (.os i (Lib.compact xs).length) (setH i (.rows (ints ys) 1 T) H) S nx) : callK cx 89 [.os i m] H S nx K := by
  obtain ⟨P, B, n, tb⟩ := cx
  simp only at hP
  subst hP
  have hle : (Lib.compact xs).length ≤ xs.length := by
    simp only [Lib.compact, Lib.compactUpTo, List.length_map]
    refine Nat.le_trans (List.length_filter_le _ _) (by simp)
  refine call_put Try.call89 hi hm (ys := Lib.compact xs ++ List.replicate (xs.length - (Lib.compact xs).length) 0) (by rw [List.length_append, List.length_replicate]; omega) (fun l => .slice l.base (Lib.compact xs).length l.cap) (.os i (Lib.compact xs).length) (SV.lt_os hin) (fun _ => rfl) (fun cap w hx => ?_) (fun b off cap w hH hb hc => ?_) (h _)
  · subst hx
    exact Any.slices_Compact_int_empty compLays none cap w
  · refine (Any.slices_Compact_int compLays b off cap xs w hH (by omega) hc).mono ?_
    rintro e w' ⟨h1, q, rfl⟩
    exact ⟨h1, q, #[], by rw [grow_empty]⟩
def NewW (w : World) (l : List Int) (e : Ending) (w' : World) : Prop := ∃ v, e = .returned v ∧ Ext w w' ∧ NewRows w w' v 1 3 (ints l)
set_option maxHeartbeats 1000000 in
theorem sorted_any (w : World) (Bs : Nat) (base : Option Addr) (cap : Nat) (zs : List Int) (hl : zs.length ≤ 1000000) (hBs : Bs < w.heap.size) (hc : w.cell? ⟨Bs, 0, none⟩ = some (.slice base zs.length cap)) (hI : IntsIn w base zs) :
    Calls Try.prog 87 #[.func (.func 111) #[] #[.pointer (some ⟨Bs, 0, none⟩)]] w (NewW w (srt zs)) := by
  refine calls_of tab tabOk Try.func87 rfl rfl rfl [] (fun _ => ⟨none, 0⟩) [.c (.func (.func 111) #[] #[.pointer (some ⟨Bs, 0, none⟩)])] [] (baseA w) 0 rfl rfl (by show 1 ≤ _; decide) (abs_base w) ?_
  (repeat' ((conv => whnf) <;> first | (show Wp _ _ _ _ _ _ _; refine Wp.go tabOk rfl ?_) | (show @cmpK _ _ _; (first | refine cmpY ?_ | refine cmpN ?_ | (refine cmp_both ?_ ?_ <;> intro _))) | (show wrapK _ _ _; refine wrapA ?_) | (show leK _ _ _; refine leA ?_) | (show roomK _ _ _; refine roomA ?_) | (show ltK _ _ _; refine ltA ?_) | (show _ ∧ _; refine ⟨?_, ?_⟩) | (show keepK _ _ _ _ _; refine keepA ?_) | refine own_keep ?_ | refine ap_old ?_))
  refine call_new (f := 109) Try.call109 1 3 (fun _ : Unit => ints zs) (fun _ => True) (fun ρ w' hw => ?_) (fun _ _ => ?_)
  · have he := ext_of_abs hw (fun _ _ h => h)
    refine (collect_any w' Bs base cap zs (by omega) (Nat.lt_of_lt_of_le hBs he.size) ((he.cell (p := ⟨Bs, 0, none⟩) hBs).trans hc) (hI.below he)).mono ?_
    rintro e w2 ⟨v, h1, h2, h3⟩
    exact ⟨(), trivial, v, h1, h3, h2⟩
  (repeat' ((conv => whnf) <;> first | (show callK _ 110 _ _ _ _ _; refine call_sort rfl (xs := zs) List.mem_cons_self (ints_length zs) hl ?_) | (show Wp _ _ _ _ _ _ _; refine Wp.go tabOk rfl ?_) | (show @cmpK _ _ _; (first | refine cmpY ?_ | refine cmpN ?_ | (refine cmp_both ?_ ?_ <;> intro _))) | (show wrapK _ _ _; refine wrapA ?_) | (show leK _ _ _; refine leA ?_) | (show roomK _ _ _; refine roomA ?_) | (show ltK _ _ _; refine ltA ?_) | (show _ ∧ _; refine ⟨?_, ?_⟩) | (show keepK _ _ _ _ _; refine keepA ?_) | refine own_keep ?_ | refine ap_old ?_))
  all_goals (conv => whnf)
  refine fin_of fun ρ w' hw => ⟨_, rfl, ext_of_abs hw (fun _ _ h => h), ?_⟩
  have := new_of_abs hw (fun _ _ h => h) (i := 0) (xs := ints (srt zs)) (k := 1) (T := 3) (by repeat (first | exact List.mem_cons_self | apply List.mem_cons_of_mem))
  rw [ints_length, srt_length] at this
  rw [ints_length]
  exact this
theorem ro_own {xs : List Int} {j : Nat} {K : Value → Prop} (hj : j < xs.length) (h : K (.int .i64 (xs.getD j 0))) : rowK (ints xs) j 0 K := by
  refine row_of _ _ (ints_get hj) rfl ?_
  have e : xs.getD j 0 = xs[j] := by simp [List.getD, hj]
  rw [← e]; exact h
set_option maxHeartbeats 1000000 in
theorem places_any (w : World) (u : IntsV) (hu : u.ok w) (slots : Int) : Calls Try.prog 60 #[u.val, .int .i64 slots] w fun e w' => e = .returned (.bool (placesL u.xs slots)) ∧ Ext w w' := by
  have hf := hu.few
  have hI := hu.within
  refine calls_of tab tabOk Try.func60 rfl rfl rfl [] (fun _ => ⟨none, 0⟩) [.c u.val, .c (.int .i64 slots)] [] (baseA w) 0 rfl rfl (by show 2 ≤ _; decide) (abs_base w) ?_
  (repeat' ((conv => whnf) <;> first | (show Wp _ _ _ _ _ _ _; refine Wp.go tabOk rfl ?_) | (show @cmpK _ _ _; (first | refine cmpY ?_ | refine cmpN ?_ | (refine cmp_both ?_ ?_ <;> intro _))) | (show wrapK _ _ _; refine wrapA ?_) | (show leK _ _ _; refine leA ?_) | (show roomK _ _ _; refine roomA ?_) | (show ltK _ _ _; refine ltA ?_) | (show _ ∧ _; refine ⟨?_, ?_⟩) | (show keepK _ _ _ _ _; refine keepA ?_) | refine own_keep ?_ | refine ap_old ?_))
  refine values_call u.base u.xs.length u.cap rfl (fun Bs => ?_)
  (repeat' ((conv => whnf) <;> first | (show Wp _ _ _ _ _ _ _; refine Wp.go tabOk rfl ?_) | (show @cmpK _ _ _; (first | refine cmpY ?_ | refine cmpN ?_ | (refine cmp_both ?_ ?_ <;> intro _))) | (show wrapK _ _ _; refine wrapA ?_) | (show leK _ _ _; refine leA ?_) | (show roomK _ _ _; refine roomA ?_) | (show ltK _ _ _; refine ltA ?_) | (show _ ∧ _; refine ⟨?_, ?_⟩) | (show keepK _ _ _ _ _; refine keepA ?_) | refine own_keep ?_ | refine ap_old ?_))
  refine call_new (f := 87) Try.call87 1 3 (fun _ : Unit => ints (srt u.xs)) (fun _ => True) (fun ρ w' hw => ?_) (fun _ _ => ?_)
  · have he := ext_of_abs hw (fun _ _ h => h.1)
    have hc : w'.cell? ⟨Bs, 0, none⟩ = some (.slice u.base u.xs.length u.cap) := holds_of_abs hw fun R h => by
      rcases h.2.2 with h | ⟨b, off, e, _, hcc⟩
      · simp at h
      · have := hcc 0 _ rfl 0 _ rfl
        simp only [Option.some.injEq, Addr.mk.injEq, and_true] at e
        rw [e.1, e.2]
        simpa using this
    refine (sorted_any w' Bs u.base u.cap u.xs hf (cell_lt hc) hc (hI.below he)).mono ?_
    rintro e w2 ⟨v, h1, h2, h3⟩
    exact ⟨(), trivial, v, h1, h2, h3⟩
  have hsl := srt_length u.xs
  have hil := ints_length (srt u.xs)
  by_cases h0 : u.xs.length = 0
  · have hx : u.xs = [] := List.eq_nil_of_length_eq_zero h0
    (repeat' ((conv => whnf) <;> first | (show @cmpK _ _ _; (first | refine cmp_yes (by rw [ints_length]; omega) ?_)) | (show Wp _ _ _ _ _ _ _; refine Wp.go tabOk rfl ?_) | (show @cmpK _ _ _; (first | refine cmpY ?_ | refine cmpN ?_ | (refine cmp_both ?_ ?_ <;> intro _))) | (show wrapK _ _ _; refine wrapA ?_) | (show leK _ _ _; refine leA ?_) | (show roomK _ _ _; refine roomA ?_) | (show ltK _ _ _; refine ltA ?_) | (show _ ∧ _; refine ⟨?_, ?_⟩) | (show keepK _ _ _ _ _; refine keepA ?_) | refine own_keep ?_ | refine ap_old ?_))
    all_goals (conv => whnf)
    all_goals exact ends_bool (fun _ _ h => h.1) rfl (by rw [hx]; exact places_empty slots)
  · have hp := places_plain slots (zs := u.xs) (by omega)
    (repeat' ((conv => whnf) <;> first | (show @cmpK _ _ _; (first | refine cmp_no (by rw [ints_length]; omega) ?_ | (refine cmp_both ?_ ?_ <;> intro _))) | (show idxRowK _ _ _ _ _ _; (first | refine idxRow_of 0 rfl (by rw [ints_length]; omega) (Nat.le_refl _) ?_ | refine idxRow_of (u.xs.length - 1) (by omega) (by omega) (Nat.le_refl _) ?_)) | (show rowK _ _ _ _; (first | refine ro_own (xs := srt u.xs) (j := 0) (by omega) ?_ | refine ro_own (xs := srt u.xs) (j := u.xs.length - 1) (by omega) ?_)) | (show callK _ 89 _ _ _ _ _; refine call_compact rfl (xs := srt u.xs) List.mem_cons_self (by omega) (ints_length _) (by omega) (fun ys => ?_)) | (show Wp _ _ _ _ _ _ _; refine Wp.go tabOk rfl ?_) | (show @cmpK _ _ _; (first | refine cmpY ?_ | refine cmpN ?_ | (refine cmp_both ?_ ?_ <;> intro _))) | (show wrapK _ _ _; refine wrapA ?_) | (show leK _ _ _; refine leA ?_) | (show roomK _ _ _; refine roomA ?_) | (show ltK _ _ _; refine ltA ?_) | (show _ ∧ _; refine ⟨?_, ?_⟩) | (show keepK _ _ _ _ _; refine keepA ?_) | refine own_keep ?_ | refine ap_old ?_))
    all_goals (conv => whnf)
    · exact ends_bool (fun _ _ h => h.1) rfl (hp.2 ⟨by omega, by omega, by omega⟩)
    all_goals exact ends_bool (fun _ _ h => h.1) rfl (Bool.eq_false_iff.2 fun h => by have := hp.1 h; omega)
end Go.Proofs.Ytdmkdogakbipbaa

/- LO -/
namespace Go.Proofs.Ytdmkdogakbipbaa
open Go.RowKit Go.SX
abbrev DCell := SX.Loc × List Int
def dRow (p : DCell) : List Value := [.slice p.1.base p.2.length p.1.cap]
def dRows (L : List DCell) : List (List Value) := L.map dRow
def dGrp (L : List DCell) : List Cell1 := L.map fun p => (p.1, p.2.map (Value.int .i64))
def DIs (n : Nat) (p : DCell) : Prop := (p.1 = ⟨none, 0⟩ ∧ p.2 = []) ∨ ((∃ b off, p.1.base = some ⟨b, off, none⟩) ∧ p.2.length = n ∧ n ≤ p.1.cap)
structure DOk (n : Nat) (L : List DCell) : Prop where
  len : L.length = n
  each : ∀ p ∈ L, DIs n p
def stepP (n : Nat) (D : List (List Int)) (s f w : Int) : List (List Int) :=
  if w = 0 then D else D.set ((f - s + n) % n).toNat ((if D.getD ((f - s + n) % n).toNat [] = [] then List.replicate n 0 else D.getD ((f - s + n) % n).toNat []).set s.toNat w)
def innerD (n : Nat) (fr row : List Int) (s : Int) (D : List (List Int)) (k : Nat) : List (List Int) := (List.range k).foldl (fun D i => stepP n D s (fr.getD i 0) (row.getD i 0)) D
def outerD (n : Nat) (rows : List (List Int)) (fr to : List Int) (o : Nat) : List (List Int) := (List.range o).foldl (fun D o => innerD n fr (rows.getD o []) (to.getD o 0) D fr.length) (List.replicate n [])
theorem innerD_succ (n : Nat) (fr row : List Int) (s : Int) (D : List (List Int)) (k : Nat) : innerD n fr row s D (k + 1) = stepP n (innerD n fr row s D k) s (fr.getD k 0) (row.getD k 0) := by simp [innerD, List.range_succ]
theorem outerD_succ (n : Nat) (rows : List (List Int)) (fr to : List Int) (o : Nat) : outerD n rows fr to (o + 1) = innerD n fr (rows.getD o []) (to.getD o 0) (outerD n rows fr to o) fr.length := by simp [outerD, List.range_succ]
theorem dRows_length (L : List DCell) : (dRows L).length = L.length := by simp [dRows]
theorem dRows_get {L : List DCell} {d : Nat} {p : DCell} (h : L[d]? = some p) : (dRows L)[d]? = some (dRow p) := by simp [dRows, h]
theorem dGrp_get {L : List DCell} {d : Nat} {p : DCell} (h : L[d]? = some p) : (dGrp L)[d]? = some (p.1, p.2.map (Value.int .i64)) := by simp [dGrp, h]
theorem dRows_set (L : List DCell) (d : Nat) (p : DCell) : dRows (L.set d p) = (dRows L).set d (dRow p) := by simp [dRows, List.map_set]
theorem dGrp_set (L : List DCell) (d : Nat) (p : DCell) : dGrp (L.set d p) = (dGrp L).set d (p.1, p.2.map (Value.int .i64)) := by simp [dGrp, List.map_set]
theorem DOk.set {n d : Nat} {L : List DCell} {p : DCell} (h : DOk n L) (hp : DIs n p) : DOk n (L.set d p) := ⟨by rw [List.length_set]; exact h.len, fun q hq => by
  rcases List.mem_or_eq_of_mem_set hq with hq | hq
  · exact h.each q hq
  · rw [hq]; exact hp⟩
def nilD (n : Nat) : List DCell := List.replicate n (⟨none, 0⟩, [])
theorem nilD_ok (n : Nat) : DOk n (nilD n) := ⟨by simp [nilD], fun p hp => .inl (by rw [(List.mem_replicate.1 hp).2]; exact ⟨rfl, rfl⟩)⟩
theorem nilD_snd (n : Nat) : (nilD n).map Prod.snd = List.replicate n [] := by simp [nilD]
theorem dRows_nil (n : Nat) : dRows (nilD n) = List.replicate n [.slice none 0 0] := by simp [dRows, nilD, dRow]
theorem dGrp_nil (n : Nat) : dGrp (nilD n) = List.replicate n (⟨none, 0⟩, []) := by simp [dGrp, nilD]
theorem snd_getD {L : List DCell} {d : Nat} {p : DCell} (h : L[d]? = some p) : (L.map Prod.snd).getD d [] = p.2 := by simp [List.getD, h]
/-- a step at a nil diagonal -/
theorem step_new {n d : Nat} {L : List DCell} {p : DCell} {s f w : Int} {l : SX.Loc} (hd : L[d]? = some p) (hp : p.2 = []) (hw : w ≠ 0) (hdd : (f - s + n) % n = d) : (L.set d (l, (List.replicate n 0).set s.toNat w)).map Prod.snd = stepP n (L.map Prod.snd) s f w := by
  rw [stepP, if_neg hw, hdd, Int.toNat_natCast, snd_getD hd, if_pos hp, List.map_set]
theorem step_old {n d : Nat} {L : List DCell} {p : DCell} {s f w : Int} (hd : L[d]? = some p) (hp : p.2 ≠ []) (hw : w ≠ 0) (hdd : (f - s + n) % n = d) : (L.set d (p.1, p.2.set s.toNat w)).map Prod.snd = stepP n (L.map Prod.snd) s f w := by
  rw [stepP, if_neg hw, hdd, Int.toNat_natCast, snd_getD hd, if_neg hp, List.map_set]
theorem dpos {n : Nat} {f s : Int} (h : 0 ≤ s ∧ s < n) (hf : 0 ≤ f ∧ f < n) : ∃ d : Nat, (f - s + n) % n = d ∧ d < n ∧ 0 ≤ f - s + n := by
  have h1 : 0 ≤ (f - s + n) % n := Int.emod_nonneg _ (by omega)
  have h2 : (f - s + n) % n < n := Int.emod_lt_of_pos _ (by omega)
  exact ⟨((f - s + n) % n).toNat, by omega, by omega, by omega⟩
theorem nil_yes {P : Program} {t : TypeId} {ti : TI} (h : mkTI P t = some ti) (hk : ti.kind = 1) {ox oy : Operand} {K : SV → Prop} (hK : K (.c (.bool true))) : pureK P (do eqGuard .eql t ox oy (.slice none 0 0) (.slice none 0 0); binOp .eql t (.slice none 0 0) (.slice none 0 0)) K := slice_nil_eql h hk hK
theorem nil_no {P : Program} {t : TypeId} {ti : TI} (h : mkTI P t = some ti) (hk : ti.kind = 1) {ox oy : Operand} {base : Option Addr} {a : Addr} {len cap : Nat} {K : SV → Prop} (e : base = some a) (hK : K (.c (.bool false))) : pureK P (do eqGuard .eql t ox oy (.slice base len cap) (.slice none 0 0); binOp .eql t (.slice base len cap) (.slice none 0 0)) K := by
  subst e; exact slice_nil_eql h hk hK
end Go.Proofs.Ytdmkdogakbipbaa

/- LP -/
namespace Go.Proofs.Ytdmkdogakbipbaa
open Go.RowKit Go.SX
def diagA (x : ShapesV) : Asn where
  holds R w := (rowsA x.base 1 (shRows x.l)).holds R w ∧ ∀ u ∈ x.l, (intsA u).holds R w
  stable := fun hR hw h => ⟨(rowsA _ _ _).stable hR hw h.1, fun u hu => (intsA u).stable hR hw (h.2 u hu)⟩
structure DiagIs (D : List (List Int)) (x : ShapesV) : Prop where
  rows : x.l.map IntsV.xs = D
  sane : ∀ u ∈ x.l, u.sane
  room : x.l.length ≤ x.cap
def DiagPost (w : World) (D : List (List Int)) (er : Int) : Ending → World → Prop := fun e w' => ∃ x : ShapesV, DiagIs D x ∧ e = .returned (.tuple #[x.val, .int .i64 er]) ∧ Ext w w' ∧ (diagA x).holds (fun b => w.heap.size ≤ b ∧ b < w'.heap.size) w'
def diagOk (rows : List (List Int)) (fr to : List Int) (slots : Int) : Prop := 1 ≤ slots ∧ slots ≤ 4096 ∧ rows.length = to.length ∧ placesL fr slots = true ∧ placesL to slots = true ∧ ∀ r ∈ rows, r.length = fr.length
theorem diag_fail {w : World} {B : Base} {H : Heap} {S : Asn} {nx : Nat} (hb : ∀ R w', S.holds R w' → (baseA B.w0).holds R w') (hw0 : B.w0 = w) : finK B (.tup [.c (.slice none 0 0), .c (.int .i64 3)]) H S nx (DiagPost w [] 3) := by
  subst hw0
  refine fin_of fun ρ w' hw => ⟨⟨none, 0, []⟩, ⟨rfl, fun _ h => (by cases h), Nat.le_refl _⟩, rfl, ext_of_abs hw hb, ⟨⟨fun _ h => (by cases h), .inl rfl⟩, fun _ h => by cases h⟩⟩
theorem placesL_of {l : List Int} {slots : Int} (h : placesL l slots = true) : (∀ x ∈ l, 0 ≤ x ∧ x < slots) ∧ l.Nodup := by simpa [placesL] using h
def dInt (p : DCell) : IntsV := ⟨p.1.base, p.1.cap, p.2⟩
theorem diag_end {w : World} {B : Base} {H : Heap} {S : Asn} {nx i g n m : Nat} {L : List DCell} (hb : ∀ R w', S.holds R w' → (baseA B.w0).holds R w') (hw0 : B.w0 = w) (hL : DOk n L) (hf : ∀ p ∈ L, ∀ x ∈ p.2, i64 x) (hn : n ≤ 1000000) (hm : m = n) (hi : (i, Ent.rows (dRows L) 1 33) ∈ H) (hg : (g, Ent.ext (grpO 3 (dGrp L))) ∈ H) :
    finK B (.tup [.os i m, .c (.int .i64 0)]) H S nx (DiagPost w (L.map Prod.snd) 0) := by
  subst hw0 hm
  refine fin_of fun ρ w' hw => ?_
  have hn1 := new_of_abs hw hb hi
  have hsh : dRows L = shRows (L.map dInt) := by simp [dRows, shRows, dRow, dInt, IntsV.val]
  rw [hsh] at hn1
  obtain ⟨base, cap, e, h1, h2⟩ : ∃ base cap, (SV.os i (shRows (L.map dInt)).length).rf ρ = .slice base (L.map dInt).length cap ∧ (L.map dInt).length ≤ cap ∧ (rowsA base 1 (shRows (L.map dInt))).holds (fun b => B.w0.heap.size ≤ b ∧ b < w'.heap.size) w' := by
    obtain ⟨base, cap, e, h1⟩ := newRows_data hn1
    obtain ⟨lc, e2, F, hF, hr, hcap, _⟩ := hn1
    rw [e2] at e
    simp only [Value.slice.injEq] at e
    obtain ⟨e3, _, e4⟩ := e
    refine ⟨base, cap, ?_, ?_, h1⟩
    · rw [e2, e3, e4, shRows_length]
    · rw [← e4]; simpa [shRows_length] using hcap
  have hlen : (shRows (L.map dInt)).length = m := by rw [shRows_length, List.length_map, hL.len]
  rw [hlen] at e
  refine ⟨⟨base, cap, L.map dInt⟩, ⟨by simp [dInt], fun u hu => ?_, h1⟩, ?_, ext_of_abs hw hb, h2, fun u hu => ?_⟩
  · obtain ⟨p, hp, rfl⟩ := List.mem_map.1 hu
    rcases hL.each p hp with ⟨e1, e2⟩ | ⟨_, e2, e3⟩
    · exact ⟨hf p hp, by simp [dInt, e2], by simp [dInt, e2]⟩
    · exact ⟨hf p hp, by simp [dInt, e2, e3], by simp [dInt, e2, hn]⟩
  · have : (SV.tup [.os i m, .c (.int .i64 0)]).rf ρ = .tuple #[(SV.os i m).rf ρ, .int .i64 0] := rfl
    rw [this, e]; rfl
  · obtain ⟨p, hp, rfl⟩ := List.mem_map.1 hu
    rcases hL.each p hp with ⟨e1, e2⟩ | ⟨⟨b, off, e1⟩, e2, e3⟩
    · show (rowsA (dInt p).base 1 (ints (dInt p).xs)).holds _ w'
      have : (dInt p).xs = [] := e2
      rw [this]
      exact ⟨fun r hr => (by cases hr), .inl rfl⟩
    · have hp' : ((p.1, p.2.map (Value.int .i64)) : Cell1) ∈ dGrp L := List.mem_map.2 ⟨p, hp, rfl⟩
      obtain ⟨g1, g2, g3⟩ := grp_new hw hb hg hp' e1
      refine ⟨ints_row, .inr ⟨b, off, e1, ⟨g1, g2⟩, fun k r hk j v hj => ?_⟩⟩
      have hkl : k < p.2.length := by
        have := (List.getElem?_eq_some_iff.1 hk).1
        rwa [ints_length] at this
      have hk' : (ints p.2)[k]? = some r := hk
      rw [ints_get hkl] at hk'
      obtain rfl : [Value.int .i64 p.2[k]] = r := by simpa using hk'
      have hj0 : j = 0 := by
        rcases Nat.eq_zero_or_pos j with h | h
        · exact h
        · rw [List.getElem?_eq_none (by show 1 ≤ j; exact h)] at hj; cases hj
      subst hj0
      have := g3 k (Value.int .i64 p.2[k]) (by simp [hkl])
      obtain rfl : Value.int .i64 p.2[k] = v := by simpa using hj
      simpa using this
end Go.Proofs.Ytdmkdogakbipbaa

/- MM -/
namespace Go.Proofs.Ytdmkdogakbipbaa
open Go.SX Go.RowKit
def nilV : IntsV := ⟨none, 0, []⟩
def inpN (t : IntsV) : NodeV := ⟨1, 0, 0, t, 0, 0, 0, nilV, nilV⟩
def chk2 (n : NodeV) (t : IntsV) : Int × List (List Int) := check ⟨none, 0, [inpN t, n], 1⟩
theorem chk2_eq (n : NodeV) (t : IntsV) (b : Option Addr) (c : Nat) : check ⟨b, c, [inpN t, n], 1⟩ = chk2 n t := by unfold chk2 check; rfl
def okRows (n : NodeV) (t : IntsV) : Prop := (isLin n ∨ n.kind = 9) ∧ n.a = 0 ∧ (chk2 n t).1 = 0
instance (n : NodeV) (t : IntsV) : Decidable (okRows n t) := by unfold okRows; infer_instance
def cntR (n : NodeV) (t : IntsV) : Nat := (entries ((chk2 n t).2.getD 1 [])).toNat
def rowsR (n : NodeV) (t : IntsV) : (List (List Int) × List Int) × Int := if okRows n t then ((rowsW n t.xs (cntR n t), (List.range (cntR n t)).map (biasI n (cntR n t))), 0) else (([], []), 3)
theorem rows_in {n : NodeV} {t : IntsV} (h : okRows n t) : ∃ s, (chk2 n t).2 = [t.xs, s] ∧ entries s = cntR n t ∧ RowsIn n t.xs s (cntR n t) := by
  obtain ⟨hk, ha, hc⟩ := h
  obtain ⟨h1, h2, h3, h4, h5⟩ := check_in (g := ⟨none, 0, [inpN t, n], 1⟩) hc
  obtain ⟨s0, e0, n0⟩ := h5 0 (inpN t) rfl
  obtain ⟨s1, e1, n1⟩ := h5 1 n rfl
  have hs0 : s0 = t.xs := by
    have := n0.shape
    unfold shapeO at this
    rw [if_pos (.inl rfl)] at this
    exact (Option.some.inj this).symm
  have hl : (chk2 n t).2.length = 2 := h4
  have hsh : (chk2 n t).2 = [t.xs, s1] := by
    have a0 : (chk2 n t).2[0]? = some s0 := e0
    have a1 : (chk2 n t).2[1]? = some s1 := e1
    match hq : (chk2 n t).2, hl with
    | [x, y], _ =>
      rw [hq] at a0 a1
      simp at a0 a1
      rw [a0, a1, hs0]
  obtain ⟨_, _, cnt, hcnt, hp⟩ := place_in (g := ⟨none, 0, [inpN t, n], 1⟩) hc (i := 1) (n := n) rfl
  have e2 : (check ⟨none, 0, [inpN t, n], 1⟩).2 = [t.xs, s1] := hsh
  rw [e2, ha] at hp
  rw [e2] at hcnt
  have hc2 : cntR n t = cnt := by
    unfold cntR
    rw [hsh, hcnt]; rfl
  refine ⟨s1, hsh, by rw [hc2]; exact hcnt, by rw [hc2]; exact hp, hk, ?_⟩
  have := hp.pos t.xs List.mem_cons_self
  omega
def RowsPost (w : World) (r : (List (List Int) × List Int) × Int) : Ending → World → Prop := fun e w' => ∃ (x : ShapesV) (y : IntsV), (DiagIs r.1.1 x ∧ y.xs = r.1.2 ∧ y.sane) ∧ e = .returned (.tuple #[x.val, y.val, .int .i64 r.2]) ∧ Ext w w' ∧ (diagA x).holds (fun b => w.heap.size ≤ b ∧ b < w'.heap.size) w' ∧ (intsA y).holds (fun b => w.heap.size ≤ b ∧ b < w'.heap.size) w'
theorem rows_fail {w : World} {B : Base} {H : Heap} {S : Asn} {nx : Nat} {n : NodeV} {t : IntsV} (hno : ¬ okRows n t) (hb : ∀ R w', S.holds R w' → (baseA B.w0).holds R w') (hw0 : B.w0 = w) : finK B (.tup [.c (.slice none 0 0), .c (.slice none 0 0), .c (.int .i64 3)]) H S nx (RowsPost w (rowsR n t)) := by
  subst hw0
  rw [rowsR, if_neg hno]
  refine fin_of fun ρ w' hw => ⟨⟨none, 0, []⟩, ⟨none, 0, []⟩, ⟨⟨rfl, fun _ h => (by cases h), Nat.le_refl _⟩, rfl, ⟨fun _ h => (by cases h), Nat.le_refl _, by decide⟩⟩, rfl, ext_of_abs hw hb, ⟨⟨fun _ h => (by cases h), .inl rfl⟩, fun _ h => (by cases h)⟩, ⟨fun _ h => (by cases h), .inl rfl⟩⟩
/-- a row so far: nil, or somewhere with room -/
def RIs (p : DCell) : Prop := (p.1 = ⟨none, 0⟩ ∧ p.2 = []) ∨ ((∃ b off, p.1.base = some ⟨b, off, none⟩) ∧ p.2 ≠ [] ∧ p.2.length ≤ p.1.cap)
theorem rows_end {w : World} {B : Base} {H : Heap} {S : Asn} {nx i g j n m : Nat} {L : List DCell} {bs : List Int} {r : (List (List Int) × List Int) × Int} (hb : ∀ R w', S.holds R w' → (baseA B.w0).holds R w') (hw0 : B.w0 = w) (hL : ∀ p ∈ L, RIs p) (hf : ∀ p ∈ L, (∀ x ∈ p.2, i64 x) ∧ p.2.length ≤ 1000000) (hm : m = L.length) (hn : n = bs.length) (hbf : ∀ x ∈ bs, i64 x) (hbl : bs.length ≤ 1000000)
    (hi : (i, Ent.rows (dRows L) 1 33) ∈ H) (hg : (g, Ent.ext (grpO 3 (dGrp L))) ∈ H) (hj : (j, Ent.rows (ints bs) 1 3) ∈ H) (hr : r = ((L.map Prod.snd, bs), 0)) :
    finK B (.tup [.os i m, .os j n, .c (.int .i64 0)]) H S nx (RowsPost w r) := by
  subst hw0 hm hn hr
  refine fin_of fun ρ w' hw => ?_
  have hn1 := new_of_abs hw hb hi
  have hsh : dRows L = shRows (L.map dInt) := by simp [dRows, shRows, dRow, dInt, IntsV.val]
  rw [hsh] at hn1
  obtain ⟨base, cap, e, h1, h2⟩ : ∃ base cap, (SV.os i (shRows (L.map dInt)).length).rf ρ = .slice base (L.map dInt).length cap ∧ (L.map dInt).length ≤ cap ∧ (rowsA base 1 (shRows (L.map dInt))).holds (fun b => B.w0.heap.size ≤ b ∧ b < w'.heap.size) w' := by
    obtain ⟨base, cap, e, h1⟩ := newRows_data hn1
    obtain ⟨lc, e2, F, hF, hr, hcap, _⟩ := hn1
    rw [e2] at e
    simp only [Value.slice.injEq] at e
    obtain ⟨e3, _, e4⟩ := e
    refine ⟨base, cap, ?_, ?_, h1⟩
    · rw [e2, e3, e4, shRows_length]
    · rw [← e4]; simpa [shRows_length] using hcap
  have hlen : (shRows (L.map dInt)).length = L.length := by rw [shRows_length, List.length_map]
  rw [hlen] at e
  have hn2 := new_of_abs hw hb hj
  rw [ints_length] at hn2
  obtain ⟨y, ey, y1, y2, y3⟩ := newInts hn2 hbf hbl
  refine ⟨⟨base, cap, L.map dInt⟩, y, ⟨⟨by simp [dInt], fun u hu => ?_, h1⟩, y1, y2⟩, ?_, ext_of_abs hw hb, ⟨h2, fun u hu => ?_⟩, y3⟩
  · obtain ⟨p, hp, rfl⟩ := List.mem_map.1 hu
    rcases hL p hp with ⟨e1, e2⟩ | ⟨_, e2, e3⟩
    · exact ⟨(hf p hp).1, by simp [dInt, e2], by simp [dInt, e2]⟩
    · exact ⟨(hf p hp).1, e3, (hf p hp).2⟩
  · have : (SV.tup [.os i L.length, .os j bs.length, .c (.int .i64 0)]).rf ρ = .tuple #[(SV.os i L.length).rf ρ, (SV.os j bs.length).rf ρ, .int .i64 0] := rfl
    rw [this, e, ey, List.length_map]
    simp [ShapesV.val]
  · obtain ⟨p, hp, rfl⟩ := List.mem_map.1 hu
    rcases hL p hp with ⟨e1, e2⟩ | ⟨⟨b, off, e1⟩, e2, e3⟩
    · show (rowsA (dInt p).base 1 (ints (dInt p).xs)).holds _ w'
      have : (dInt p).xs = [] := e2
      rw [this]
      exact ⟨fun r hr => (by cases hr), .inl rfl⟩
    · have hp' : ((p.1, p.2.map (Value.int .i64)) : Cell1) ∈ dGrp L := List.mem_map.2 ⟨p, hp, rfl⟩
      obtain ⟨g1, g2, g3⟩ := grp_new hw hb hg hp' e1
      refine ⟨ints_row, .inr ⟨b, off, e1, ⟨g1, g2⟩, fun k r hk j v hj => ?_⟩⟩
      have hkl : k < p.2.length := by
        have := (List.getElem?_eq_some_iff.1 hk).1
        rwa [ints_length] at this
      have hk' : (ints p.2)[k]? = some r := hk
      rw [ints_get hkl] at hk'
      obtain rfl : [Value.int .i64 p.2[k]] = r := by simpa using hk'
      have hj0 : j = 0 := by
        rcases Nat.eq_zero_or_pos j with h | h
        · exact h
        · rw [List.getElem?_eq_none (by show 1 ≤ j; exact h)] at hj; cases hj
      subst hj0
      have := g3 k (Value.int .i64 p.2[k]) (by simp [hkl])
      obtain rfl : Value.int .i64 p.2[k] = v := by simpa using hj
      simpa using this
end Go.Proofs.Ytdmkdogakbipbaa

/- MN -/
namespace Go.Proofs.Ytdmkdogakbipbaa
abbrev dtMN0 : Go.SX.DT := (.take 0 (.take 2 (.alt 1 (.take 4 (.one 3 (.take 5 (.done)))) (.one 3 (.one 1 (.take 4 (.take 5 (.done))))))))
abbrev dtMN1 : Go.SX.DT := (.take 0 (.take 1 (.take 2 (.take 3 (.take 4 (.take 5 (.take 6 (.take 7 (.take 8 (.one 9 (.one 10 (.one 11 (.take 12 (.one 13 (.done)))))))))))))))
open Go.SX Go.RowKit
theorem g2n_ok {l1 : SX.Loc} {R : Nat → Prop} {w : World} {n : NodeV} {t : IntsV} (hn : n.ok w) (hsm : n.small) (ht : t.ok w) (h : ((rowsA l1.base 9 (nodeRows [inpN t, n])).past 0).holds R w) : (⟨l1.base, l1.cap, [inpN t, n], 1⟩ : GraphV).ok w := by
  have z : i64 0 := ⟨by decide, by decide⟩
  have nv : nilV.ok w := ⟨.inl rfl, fun _ h => (by cases h), Nat.le_refl _, by decide⟩
  refine ⟨rowsA_in h, fun m hm => ?_, fun m hm => ?_, (show 2 ≤ 1000000 by decide), (show i64 1 from ⟨by decide, by decide⟩)⟩
  · rcases List.mem_cons.1 hm with rfl | hm
    · exact ⟨ht, nv, nv, (show i64 1 from ⟨by decide, by decide⟩), z, z, z, z, z⟩
    · rw [List.mem_singleton.1 hm]; exact hn
  · rcases List.mem_cons.1 hm with rfl | hm
    · exact ⟨Nat.zero_le _, Nat.zero_le _⟩
    · rw [List.mem_singleton.1 hm]; exact hsm
theorem call_check3 {cx : Cx} {f : FuncId} {args : List SV} {H : Heap} {S : Asn} {nx : Nat} {K : SV → Heap → Asn → Nat → Prop} (r : Int × List (List Int)) (hf : ∀ ar w, (callFunc f ar).run cx.P w = .ok (.enter f ar) w)
    (hc : ∀ ρ w', Abs cx.B ρ nx H S w' → Calls cx.P f (SV.rfs ρ args).toArray w' (CheckPost w' r))
    (h0 : r.1 ≠ 0 → K (.c (.tuple #[.slice none 0 0, .int .i64 r.1])) H S nx)
    (h1 : r.1 = 0 → ∀ sv : ShapesV, sv.l.map (·.xs) = r.2 → (∀ u ∈ sv.l, u.sane) → (0 < sv.l.length → ∃ a, sv.base = some a) → K (.c (.tuple #[sv.val, .int .i64 0])) H (S.and ((shapesD sv).past cx.B.w0.heap.size)) nx) : callK cx f args H S nx K := by
  rw [callK_def]
  refine ⟨hf, fun ρ w hw => (hc ρ w hw).mono ?_⟩
  rintro e w' ⟨v, rfl, he, hbad, hgood⟩
  by_cases hr : r.1 = 0
  · obtain ⟨sv, rfl, hm, hs, hd, hcap⟩ := hgood hr
    rw [hr]
    exact ⟨.c (.tuple #[sv.val, .int .i64 0]), ρ, H, _, nx, rfl, fun _ _ => rfl, Nat.le_refl _, SV.lt_c _, hw.grow he hd, h1 hr sv hm hs (fun h0 => base_some (j := 0) (rowsA_in hd.1) (by rw [shRows_length]; exact h0))⟩
  · rw [hbad hr]
    exact ⟨.c (.tuple #[.slice none 0 0, .int .i64 r.1]), ρ, H, S, nx, rfl, fun _ _ => rfl, Nat.le_refl _, SV.lt_c _, hw.ext he, h0 hr⟩
set_option maxRecDepth 20000 in
set_option maxHeartbeats 8000000 in
theorem rowsLin_no (w : World) (n : NodeV) (t : IntsV) (hn : n.ok w) (hsm : n.small) (ht : t.ok w) (hno : ¬ okRows n t) : Calls Try.prog 35 #[n.valA, t.val] w (RowsPost w (rowsR n t)) := by
  by_cases hk : isLin n ∨ n.kind = 9
  · have hkk := hk
    unfold isLin at hk
    refine calls_of tab tabOk Try.func35 rfl rfl rfl [] (fun _ => ⟨none, 0⟩) [.agg [.c (.int .i64 n.kind), .c (.int .i64 n.a), .c (.int .i64 n.b), .c n.shape.val, .c (.int .i64 n.lo), .c (.int .i64 n.hi), .c (.int .i64 n.size), .c n.data.val, .c n.bias.val], .c t.val] [] (baseA w) 0 rfl rfl (by show 2 ≤ _; decide) (abs_base w) ?_
    (repeat' ((conv => whnf) <;> first | (show drawK _ 14 _ _ _ _ _ _; refine draw_tree tabOk mixed [] _ dtMN0 (by kernel_rfl) (by kernel_rfl) (by kernel_rfl) (List.Sublist.refl _) ?_) | (show drawK _ 22 _ _ _ _ _ _; refine draw_tree tabOk mixed [13] _ dtMN1 (by kernel_rfl) (by kernel_rfl) (by kernel_rfl) (List.Sublist.refl _) ?_) | (show Wp _ _ _ _ _ _ _; refine Wp.go tabOk rfl ?_) | (show @cmpK _ _ _; (first | refine cmpY ?_ | refine cmpN ?_ | (refine cmp_both ?_ ?_ <;> intro _))) | (show wrapK _ _ _; refine wrapA ?_) | (show leK _ _ _; refine leA ?_) | (show roomK _ _ _; refine roomA ?_) | (show ltK _ _ _; refine ltA ?_) | (show _ ∧ _; refine ⟨?_, ?_⟩) | (show keepK _ _ _ _ _; refine keepA ?_) | refine ap_old ?_))
    all_goals first | (exfalso; omega) | skip
    all_goals
      (repeat' ((conv => whnf) <;> first | (show drawK _ 14 _ _ _ _ _ _; refine draw_tree tabOk mixed [] _ dtMN0 (by kernel_rfl) (by kernel_rfl) (by kernel_rfl) (List.Sublist.refl _) ?_) | (show drawK _ 22 _ _ _ _ _ _; refine draw_tree tabOk mixed [13] _ dtMN1 (by kernel_rfl) (by kernel_rfl) (by kernel_rfl) (List.Sublist.refl _) ?_) | (show Wp _ _ _ _ _ _ _; refine Wp.go tabOk rfl ?_) | (show @cmpK _ _ _; (first | refine cmpY ?_ | refine cmpN ?_ | (refine cmp_both ?_ ?_ <;> intro _))) | (show wrapK _ _ _; refine wrapA ?_) | (show leK _ _ _; refine leA ?_) | (show roomK _ _ _; refine roomA ?_) | (show ltK _ _ _; refine ltA ?_) | (show _ ∧ _; refine ⟨?_, ?_⟩) | (show keepK _ _ _ _ _; refine keepA ?_) | refine ap_old ?_))
      refine own_freeze 0 (fun _ _ _ _ hb => absurd hb (Nat.not_lt_zero _)) (fun l1 hl1 => ?_)
      (repeat' ((conv => whnf) <;> first | (show callK _ 43 _ _ _ _ _; (refine call_check (f := 43) (chk2 n t) Try.call43 (fun ρ w' hw => by have := check_any w' ⟨l1.base, l1.cap, [inpN t, n], 1⟩ (holds_of_abs hw fun R h => g2n_ok (hn.later h.1) hsm (ht.later h.1) h.2); rw [chk2_eq] at this; exact this) (fun hne => ?_) (fun he sv hm hsv => ?_))) | (show @cmpK _ _ _; (first | refine cmp_yes (by omega) ?_ | refine cmp_no (fun h => h rfl) ?_ | refine cmp_yes (fun h => hno ⟨hkk, h, he⟩) ?_)) | (show drawK _ 14 _ _ _ _ _ _; refine draw_tree tabOk mixed [] _ dtMN0 (by kernel_rfl) (by kernel_rfl) (by kernel_rfl) (List.Sublist.refl _) ?_) | (show drawK _ 22 _ _ _ _ _ _; refine draw_tree tabOk mixed [13] _ dtMN1 (by kernel_rfl) (by kernel_rfl) (by kernel_rfl) (List.Sublist.refl _) ?_) | (show Wp _ _ _ _ _ _ _; refine Wp.go tabOk rfl ?_) | (show @cmpK _ _ _; (first | refine cmpY ?_ | refine cmpN ?_ | (refine cmp_both ?_ ?_ <;> intro _))) | (show wrapK _ _ _; refine wrapA ?_) | (show leK _ _ _; refine leA ?_) | (show roomK _ _ _; refine roomA ?_) | (show ltK _ _ _; refine ltA ?_) | (show _ ∧ _; refine ⟨?_, ?_⟩) | (show keepK _ _ _ _ _; refine keepA ?_) | refine ap_old ?_))
      all_goals (conv => whnf)
      all_goals first | exact rows_fail hno (fun _ _ h => h.1) rfl | exact rows_fail hno (fun _ _ h => h.1.1) rfl
  · have hk' : n.kind ≠ 3 ∧ n.kind ≠ 4 ∧ n.kind ≠ 5 ∧ n.kind ≠ 9 := ⟨fun g => hk (.inl (.inl g)), fun g => hk (.inl (.inr (.inl g))), fun g => hk (.inl (.inr (.inr g))), fun g => hk (.inr g)⟩
    refine calls_of tab tabOk Try.func35 rfl rfl rfl [] (fun _ => ⟨none, 0⟩) [.agg [.c (.int .i64 n.kind), .c (.int .i64 n.a), .c (.int .i64 n.b), .c n.shape.val, .c (.int .i64 n.lo), .c (.int .i64 n.hi), .c (.int .i64 n.size), .c n.data.val, .c n.bias.val], .c t.val] [] (baseA w) 0 rfl rfl (by show 2 ≤ _; decide) (abs_base w) ?_
    (repeat' ((conv => whnf) <;> first | (show drawK _ 14 _ _ _ _ _ _; refine draw_tree tabOk mixed [] _ dtMN0 (by kernel_rfl) (by kernel_rfl) (by kernel_rfl) (List.Sublist.refl _) ?_) | (show drawK _ 22 _ _ _ _ _ _; refine draw_tree tabOk mixed [13] _ dtMN1 (by kernel_rfl) (by kernel_rfl) (by kernel_rfl) (List.Sublist.refl _) ?_) | (show Wp _ _ _ _ _ _ _; refine Wp.go tabOk rfl ?_) | (show @cmpK _ _ _; (first | refine cmpY ?_ | refine cmpN ?_ | (refine cmp_both ?_ ?_ <;> intro _))) | (show wrapK _ _ _; refine wrapA ?_) | (show leK _ _ _; refine leA ?_) | (show roomK _ _ _; refine roomA ?_) | (show ltK _ _ _; refine ltA ?_) | (show _ ∧ _; refine ⟨?_, ?_⟩) | (show keepK _ _ _ _ _; refine keepA ?_) | refine ap_old ?_))
    all_goals (conv => whnf)
    all_goals first | (exfalso; omega) | exact rows_fail hno (fun _ _ h => h) rfl
end Go.Proofs.Ytdmkdogakbipbaa

/- MO -/
namespace Go.Proofs.Ytdmkdogakbipbaa
open Go.SX Go.RowKit
theorem ints_storeM {r : List Int} {k : Nat} {v : Int} {K : List (List Value) → Prop} (hk : k < r.length) (h : K (ints (r.set k v))) : rowStoreK (ints r) k 0 [.int .i64 v] K := by
  refine rowStore_of _ (ints_get hk) (by show 0 + 1 ≤ 1; omega) ?_
  have e : (ints r).set k (setFrom [Value.int .i64 r[k]] 0 [.int .i64 v]) = ints (r.set k v) := by
    have e2 : setFrom [Value.int .i64 r[k]] 0 [.int .i64 v] = [Value.int .i64 v] := rfl
    rw [e2]
    simp [ints, List.map_set]
  rw [e]; exact h
def wgtR (n : NodeV) (t : List Int) (o i : Nat) : Int := if n.kind = 9 then wgt9 o i else wgtI n t o i
theorem rowW_length (n : NodeV) (t : List Int) (o : Nat) : (rowW n t o).length = (entries t).toNat := by simp [rowW]
theorem rowW_take {n : NodeV} {t : List Int} {o i : Nat} (h : i < (entries t).toNat) : (rowW n t o).take (i + 1) = (rowW n t o).take i ++ [wgtR n t o i] := by
  rw [List.take_succ_eq_append_getElem (by rw [rowW_length]; exact h)]
  simp [rowW, wgtR]
theorem getD_i64 {l : List Int} (h : ∀ x ∈ l, i64 x) (k : Nat) : i64 (l.getD k 0) := by
  rcases Nat.lt_or_ge k l.length with g | g
  · have e : l.getD k 0 = l[k] := by simp [List.getD, g]
    rw [e]; exact h _ (List.getElem_mem g)
  · have e : l.getD k 0 = 0 := by simp [List.getD, g]
    rw [e]; exact ⟨by decide, by decide⟩
theorem wgtR_i64 {n : NodeV} (hd : ∀ x ∈ n.data.xs, i64 x) (t : List Int) (o i : Nat) : i64 (wgtR n t o i) := by
  have z : i64 0 := ⟨by decide, by decide⟩
  have one : i64 1 := ⟨by decide, by decide⟩
  unfold wgtR wgt9 wgtI
  split
  · split <;> assumption
  · split
    · exact getD_i64 hd _
    · split
      · simp only
        split
        · exact z
        · exact getD_i64 hd _
      · split <;> assumption
theorem biasI_i64 {n : NodeV} (hb : ∀ x ∈ n.bias.xs, i64 x) (cnt o : Nat) : i64 (biasI n cnt o) := by
  unfold biasI
  split
  · exact getD_i64 hb _
  · split
    · exact getD_i64 hb _
    · exact ⟨by decide, by decide⟩
structure RowsPre (n : NodeV) (t : List Int) (cnt o i : Nat) (L : List DCell) : Prop where
  len : L.length = cnt
  each : ∀ p ∈ L, RIs p
  fits : ∀ p ∈ L, (∀ x ∈ p.2, i64 x) ∧ p.2.length ≤ 1000000
  is : ∀ k, k < cnt → (L.map Prod.snd).getD k [] = if k < o then rowW n t k else if k = o then (rowW n t o).take i else []
theorem RowsPre.start (n : NodeV) (t : List Int) (cnt : Nat) : RowsPre n t cnt 0 0 (nilD cnt) := ⟨by simp [nilD], fun p hp => .inl (by rw [(List.mem_replicate.1 hp).2]; exact ⟨rfl, rfl⟩), fun p hp => by rw [(List.mem_replicate.1 hp).2]; exact ⟨fun x hx => (by cases hx), Nat.zero_le _⟩, fun k hk => by
  rw [nilD_snd]
  simp only [List.getD, List.getElem?_replicate]
  simp [hk]⟩
theorem RowsPre.next {n : NodeV} {t : List Int} {cnt o : Nat} {L : List DCell} (h : RowsPre n t cnt o (entries t).toNat L) : RowsPre n t cnt (o + 1) 0 L := ⟨h.len, h.each, h.fits, fun k hk => by
  rw [h.is k hk]
  by_cases g : k < o
  · rw [if_pos g, if_pos (by omega)]
  · rw [if_neg g]
    by_cases g2 : k = o
    · rw [if_pos g2, if_pos (by omega), g2, List.take_of_length_le (by rw [rowW_length]; exact Nat.le_refl _)]
    · rw [if_neg g2, if_neg (by omega)]; simp⟩
theorem RowsPre.push {n : NodeV} {t : List Int} {cnt o i : Nat} {L : List DCell} {q : DCell} {l' : SX.Loc} (h : RowsPre n t cnt o i L) (hd : ∀ x ∈ n.data.xs, i64 x) (hi : i < (entries t).toNat) (hi64 : i ≤ 64) (hq : L[o]? = some q) (hl : ∃ b off, l'.base = some ⟨b, off, none⟩) (hcap : q.2.length + 1 ≤ l'.cap) : RowsPre n t cnt o (i + 1) (L.set o (l', q.2 ++ [wgtR n t o i])) := by
  have ho : o < L.length := (List.getElem?_eq_some_iff.1 hq).1
  have hq2 : q.2 = (rowW n t o).take i := by
    have := h.is o (by rw [← h.len]; exact ho)
    rw [snd_getD hq, if_neg (Nat.lt_irrefl o), if_pos rfl] at this
    exact this
  have hql : q.2.length = i := by rw [hq2, List.length_take, rowW_length]; omega
  refine ⟨by rw [List.length_set]; exact h.len, fun p hp => ?_, fun p hp => ?_, fun k hk => ?_⟩
  · rcases List.mem_or_eq_of_mem_set hp with hp | hp
    · exact h.each p hp
    · rw [hp]; exact .inr ⟨hl, by simp, by simpa using hcap⟩
  · rcases List.mem_or_eq_of_mem_set hp with hp | hp
    · exact h.fits p hp
    · rw [hp]
      refine ⟨fun x hx => ?_, by simp; omega⟩
      rcases List.mem_append.1 hx with hx | hx
      · exact (h.fits q (List.mem_of_getElem? hq)).1 x hx
      · rw [List.mem_singleton.1 hx]; exact wgtR_i64 hd t o i
  · rw [List.map_set]
    by_cases e : o = k
    · subst e
      rw [if_neg (Nat.lt_irrefl o), if_pos rfl, rowW_take hi, ← hq2]
      simp [List.getD, ho]
    · have := h.is k hk
      have e2 : ((L.map Prod.snd).set o (l', q.2 ++ [wgtR n t o i]).2).getD k [] = (L.map Prod.snd).getD k [] := by simp [List.getD, List.getElem?_set_ne e]
      rw [e2, this]
      by_cases g : k < o
      · rw [if_pos g, if_pos g]
      · rw [if_neg g, if_neg g, if_neg (fun e' => e e'.symm), if_neg (fun e' => e e'.symm)]
structure BiasPre (n : NodeV) (cnt o : Nat) (bs : List Int) : Prop where
  len : bs.length = cnt
  is : ∀ k, k < cnt → bs.getD k 0 = if k < o then biasI n cnt k else 0
theorem BiasPre.next {n : NodeV} {cnt o : Nat} {bs : List Int} (h : BiasPre n cnt o bs) (ho : o < cnt) : BiasPre n cnt (o + 1) (bs.set o (biasI n cnt o)) := by
  refine ⟨by rw [List.length_set]; exact h.len, fun k hk => ?_⟩
  by_cases e : o = k
  · subst e
    rw [if_pos (Nat.lt_succ_self o)]
    simp [List.getD, h.len, ho]
  · have := h.is k hk
    have e2 : (bs.set o (biasI n cnt o)).getD k 0 = bs.getD k 0 := by simp [List.getD, List.getElem?_set_ne e]
    rw [e2, this]
    by_cases g : k < o
    · rw [if_pos g, if_pos (by omega)]
    · rw [if_neg g, if_neg (by omega)]
theorem BiasPre.done {n : NodeV} {cnt : Nat} {bs : List Int} (h : BiasPre n cnt cnt bs) : bs = (List.range cnt).map (biasI n cnt) := by
  apply List.ext_getElem
  · simp [h.len]
  · intro k h1 h2
    have hk : k < cnt := by rw [← h.len]; exact h1
    have := h.is k hk
    rw [if_pos hk] at this
    simp [List.getD, h1] at this
    simp [this]
theorem RowsPre.done {n : NodeV} {t : List Int} {cnt : Nat} {L : List DCell} (h : RowsPre n t cnt cnt 0 L) : L.map Prod.snd = rowsW n t cnt := by
  apply List.ext_getElem
  · simp [rowsW, h.len]
  · intro k h1 h2
    have hk : k < cnt := by rw [← h.len]; simpa using h1
    have := h.is k hk
    rw [if_pos hk] at this
    have e : (rowsW n t cnt)[k] = rowW n t k := by simp [rowsW]
    rw [e, ← this]
    simp [List.getD, h.len, hk]
set_option maxRecDepth 20000 in
set_option maxHeartbeats 8000000 in
theorem rowsLin_ok (w : World) (n : NodeV) (t : IntsV) (hn : n.ok w) (hsm : n.small) (ht : t.ok w) (hok : okRows n t) : Calls Try.prog 35 #[n.valA, t.val] w (RowsPost w (rowsR n t)) := by
  obtain ⟨s, hsh, hcs, hR⟩ := rows_in hok
  have hcnt := hR.place.few
  have hsz := hR.size
  have heb := (entries_bd t.xs).2
  rw [rowsR, if_pos hok]
  obtain ⟨cnt, hce⟩ : ∃ c, cntR n t = c := ⟨_, rfl⟩
  rw [hce] at hcs hR hcnt ⊢
  obtain ⟨E, hE⟩ : ∃ E : Nat, entries t.xs = E := ⟨(entries t.xs).toNat, by omega⟩
  have ha := hok.2.1
  have hk := hok.1
  have hkk := hk
  unfold isLin at hk
  refine calls_of tab tabOk Try.func35 rfl rfl rfl [] (fun _ => ⟨none, 0⟩) [.agg [.c (.int .i64 n.kind), .c (.int .i64 n.a), .c (.int .i64 n.b), .c n.shape.val, .c (.int .i64 n.lo), .c (.int .i64 n.hi), .c (.int .i64 n.size), .c n.data.val, .c n.bias.val], .c t.val] [] (baseA w) 0 rfl rfl (by show 2 ≤ _; decide) (abs_base w) ?_
  (repeat' ((conv => whnf) <;> first | (show drawK _ 14 _ _ _ _ _ _; refine draw_tree tabOk mixed [] _ dtMN0 (by kernel_rfl) (by kernel_rfl) (by kernel_rfl) (List.Sublist.refl _) ?_) | (show drawK _ 22 _ _ _ _ _ _; refine draw_tree tabOk mixed [13] _ dtMN1 (by kernel_rfl) (by kernel_rfl) (by kernel_rfl) (List.Sublist.refl _) ?_) | (show Wp _ _ _ _ _ _ _; refine Wp.go tabOk rfl ?_) | (show @cmpK _ _ _; (first | refine cmpY ?_ | refine cmpN ?_ | (refine cmp_both ?_ ?_ <;> intro _))) | (show wrapK _ _ _; refine wrapA ?_) | (show leK _ _ _; refine leA ?_) | (show roomK _ _ _; refine roomA ?_) | (show ltK _ _ _; refine ltA ?_) | (show _ ∧ _; refine ⟨?_, ?_⟩) | (show keepK _ _ _ _ _; refine keepA ?_) | refine ap_old ?_))
  all_goals first | (exfalso; omega) | skip
  all_goals
    (repeat' ((conv => whnf) <;> first | (show drawK _ 14 _ _ _ _ _ _; refine draw_tree tabOk mixed [] _ dtMN0 (by kernel_rfl) (by kernel_rfl) (by kernel_rfl) (List.Sublist.refl _) ?_) | (show drawK _ 22 _ _ _ _ _ _; refine draw_tree tabOk mixed [13] _ dtMN1 (by kernel_rfl) (by kernel_rfl) (by kernel_rfl) (List.Sublist.refl _) ?_) | (show Wp _ _ _ _ _ _ _; refine Wp.go tabOk rfl ?_) | (show @cmpK _ _ _; (first | refine cmpY ?_ | refine cmpN ?_ | (refine cmp_both ?_ ?_ <;> intro _))) | (show wrapK _ _ _; refine wrapA ?_) | (show leK _ _ _; refine leA ?_) | (show roomK _ _ _; refine roomA ?_) | (show ltK _ _ _; refine ltA ?_) | (show _ ∧ _; refine ⟨?_, ?_⟩) | (show keepK _ _ _ _ _; refine keepA ?_) | refine ap_old ?_))
    refine own_freeze 0 (fun _ _ _ _ hb => absurd hb (Nat.not_lt_zero _)) (fun l1 hl1 => ?_)
    (repeat' ((conv => whnf) <;> first | (show callK _ 43 _ _ _ _ _; (refine call_check3 (f := 43) (chk2 n t) Try.call43 (fun ρ w' hw => by have := check_any w' ⟨l1.base, l1.cap, [inpN t, n], 1⟩ (holds_of_abs hw fun R h => g2n_ok (hn.later h.1) hsm (ht.later h.1) h.2); rw [chk2_eq] at this; exact this) (fun hne => absurd hok.2.2 hne) (fun he sv hm hsv hsb => ?_))) | (show @cmpK _ _ _; (first | refine cmp_yes (by omega) ?_ | refine cmp_no (fun h => h rfl) ?_ | refine cmp_no (fun h => h ha) ?_)) | (show drawK _ 14 _ _ _ _ _ _; refine draw_tree tabOk mixed [] _ dtMN0 (by kernel_rfl) (by kernel_rfl) (by kernel_rfl) (List.Sublist.refl _) ?_) | (show drawK _ 22 _ _ _ _ _ _; refine draw_tree tabOk mixed [13] _ dtMN1 (by kernel_rfl) (by kernel_rfl) (by kernel_rfl) (List.Sublist.refl _) ?_) | (show Wp _ _ _ _ _ _ _; refine Wp.go tabOk rfl ?_) | (show @cmpK _ _ _; (first | refine cmpY ?_ | refine cmpN ?_ | (refine cmp_both ?_ ?_ <;> intro _))) | (show wrapK _ _ _; refine wrapA ?_) | (show leK _ _ _; refine leA ?_) | (show roomK _ _ _; refine roomA ?_) | (show ltK _ _ _; refine ltA ?_) | (show _ ∧ _; refine ⟨?_, ?_⟩) | (show keepK _ _ _ _ _; refine keepA ?_) | refine ap_old ?_))
    rw [hsh] at hm
    obtain ⟨vb, vc, vl⟩ := sv
    obtain ⟨u0, u1, rfl, hu0, hu1⟩ : ∃ u v, vl = [u, v] ∧ u.xs = t.xs ∧ v.xs = s := by
      have h2 : vl.length = 2 := by have := congrArg List.length hm; simpa using this
      match vl, h2, hm with
      | [u, v], _, h => exact ⟨u, v, rfl, by simpa using (List.cons.inj h).1, by simpa using (List.cons.inj (List.cons.inj h).2).1⟩
    obtain ⟨va, rfl⟩ : ∃ a, vb = some a := hsb (show 0 < 2 by decide)
    (repeat' ((conv => whnf) <;> first | (show idxK _ _ _ _ _; refine idx_of va 1 rfl rfl (show 1 < 2 by decide) ?_) | (show roK _ _ _; refine ro_row0 (fun R w' h => rowsA_in h.2.1) [u1.val] u1.val rfl rfl ?_) | (show callK _ 59 _ _ _ _ _; (refine call_pure (f := 59) Try.call59 (.int .i64 (cnt : Nat)) (fun ρ w' hw => by have := entries_any w' u1.base u1.cap u1.xs (holds_of_abs hw fun R h => rowsA_in (h.2.2 u1 (by repeat (first | exact List.mem_cons_self | apply List.mem_cons_of_mem)))); rw [show entries u1.xs = (cnt : Int) by rw [hu1]; exact hcs] at this; exact this) ?_)) | (show makeK _ _ _ _; (first | refine make_of cnt rfl rfl (by show 24 * _ ≤ _; omega) (by omega) ?_ | refine make_of cnt rfl rfl (by show 8 * _ ≤ _; omega) (by omega) ?_)) | (show drawK _ 14 _ _ _ _ _ _; refine draw_tree tabOk mixed [] _ dtMN0 (by kernel_rfl) (by kernel_rfl) (by kernel_rfl) (List.Sublist.refl _) ?_) | (show drawK _ 22 _ _ _ _ _ _; refine draw_tree tabOk mixed [13] _ dtMN1 (by kernel_rfl) (by kernel_rfl) (by kernel_rfl) (List.Sublist.refl _) ?_) | (show Wp _ _ _ _ _ _ _; refine Wp.go tabOk rfl ?_) | (show @cmpK _ _ _; (first | refine cmpY ?_ | refine cmpN ?_ | (refine cmp_both ?_ ?_ <;> intro _))) | (show wrapK _ _ _; refine wrapA ?_) | (show leK _ _ _; refine leA ?_) | (show roomK _ _ _; refine roomA ?_) | (show ltK _ _ _; refine ltA ?_) | (show _ ∧ _; refine ⟨?_, ?_⟩) | (show keepK _ _ _ _ _; refine keepA ?_) | refine own_keep ?_ | refine ap_old ?_))
    all_goals (conv => whnf)
  all_goals
    refine Wp.grp 3 cnt ?_
    first
    | refine Wp.loop (σ := Nat × List DCell × List Int) 9 (fun x => [(1, .c t.val), (10, .lp 3 0 0 0), (11, .fn (.func 64) [.agg [.c (.int .i64 n.kind), .c (.int .i64 n.a), .c (.int .i64 n.b), .c n.shape.val, .c (.int .i64 n.lo), .c (.int .i64 n.hi), .c (.int .i64 n.size), .c n.data.val, .c n.bias.val, .c t.val]] []), (12, .c (.int .i64 (cnt : Nat))), (13, .os 7 cnt), (14, .os 8 cnt), (55, .c (.int .i64 (cnt : Nat))), (56, .c (.int .i64 x.1))]) (fun x => [(3, .box [.c (.int .i64 n.kind), .c (.int .i64 n.a), .c (.int .i64 n.b), .c n.shape.val, .c (.int .i64 n.lo), .c (.int .i64 n.hi), .c (.int .i64 n.size), .c n.data.val, .c n.bias.val, .c t.val] 96), (7, .rows (dRows x.2.1) 1 33), (6, .ext (grpO 3 (dGrp x.2.1))), (8, .rows (ints x.2.2) 1 3)]) (fun _ => baseA w)
        (fun x => x.1 ≤ cnt ∧ RowsPre n t.xs cnt x.1 0 x.2.1 ∧ BiasPre n cnt x.1 x.2.2) (fun x => cnt - x.1) (0, nilD cnt, List.replicate cnt 0) [(7, some 5), (8, some 4)] (by decide) (fun _ => ⟨rfl, rfl⟩)
        ⟨Nat.zero_le _, RowsPre.start n t.xs cnt, by simp, fun k hk => by simp only [List.getD, List.getElem?_replicate]; simp [hk]⟩ ⟨rfl, ⟨rfl, rfl, rfl, rfl, rfl, rfl, rfl, rfl, trivial⟩, ?_, fun _ _ h => h.1.1⟩ ?_
    | refine Wp.loop (σ := Nat × List DCell × List Int) 9 (fun x => [(1, .c t.val), (10, .lp 3 0 0 0), (11, .fn (.func 64) [.agg [.c (.int .i64 n.kind), .c (.int .i64 n.a), .c (.int .i64 n.b), .c n.shape.val, .c (.int .i64 n.lo), .c (.int .i64 n.hi), .c (.int .i64 n.size), .c n.data.val, .c n.bias.val, .c t.val]] []), (12, .c (.int .i64 (cnt : Nat))), (13, .os 7 cnt), (14, .os 8 cnt), (55, .c (.int .i64 (cnt : Nat))), (56, .c (.int .i64 x.1))]) (fun x => [(3, .box [.c (.int .i64 n.kind), .c (.int .i64 n.a), .c (.int .i64 n.b), .c n.shape.val, .c (.int .i64 n.lo), .c (.int .i64 n.hi), .c (.int .i64 n.size), .c n.data.val, .c n.bias.val, .c t.val] 96), (7, .rows (dRows x.2.1) 1 33), (6, .ext (grpO 3 (dGrp x.2.1))), (8, .rows (ints x.2.2) 1 3)]) (fun _ => baseA w)
        (fun x => x.1 ≤ cnt ∧ RowsPre n t.xs cnt x.1 0 x.2.1 ∧ BiasPre n cnt x.1 x.2.2) (fun x => cnt - x.1) (0, nilD cnt, List.replicate cnt 0) [(7, some 4), (8, some 5)] (by decide) (fun _ => ⟨rfl, rfl⟩)
        ⟨Nat.zero_le _, RowsPre.start n t.xs cnt, by simp, fun k hk => by simp only [List.getD, List.getElem?_replicate]; simp [hk]⟩ ⟨rfl, ⟨rfl, rfl, rfl, rfl, rfl, rfl, rfl, rfl, trivial⟩, ?_, fun _ _ h => h.1.1⟩ ?_
    · show heapInto _ _ [(3, .box [.c (.int .i64 n.kind), .c (.int .i64 n.a), .c (.int .i64 n.b), .c n.shape.val, .c (.int .i64 n.lo), .c (.int .i64 n.hi), .c (.int .i64 n.size), .c n.data.val, .c n.bias.val, .c t.val] 96), (7, .rows (dRows (nilD cnt)) 1 33), (6, .ext (grpO 3 (dGrp (nilD cnt)))), (8, .rows (ints (List.replicate cnt 0)) 1 3)]
      rw [dRows_nil, dGrp_nil, show ints (List.replicate cnt 0) = List.replicate cnt [Value.int .i64 0] by simp [ints]]
      exact ⟨(by repeat (first | exact List.mem_cons_self | apply List.mem_cons_of_mem)), (by repeat (first | exact List.mem_cons_self | apply List.mem_cons_of_mem)), (by repeat (first | exact List.mem_cons_self | apply List.mem_cons_of_mem)), (by repeat (first | exact List.mem_cons_self | apply List.mem_cons_of_mem)), trivial⟩
    rintro ⟨o, L, bs⟩ ⟨ho, hL, hB⟩
    dsimp only at ho hL hB
    by_cases hoc : o < cnt
    · have hwb : ∀ (w' : World), n.ok w' → Calls Try.prog 65 #[weigherV n t, .int .i64 o, .int .i64 cnt] w' fun e w2 => e = .returned (.int .i64 (biasI n cnt o)) ∧ Ext w' w2 := fun w' hn' => bias_of w' n t s cnt hR hn' o hoc
      (repeat' ((conv => whnf) <;> first | (show callK _ 65 _ _ _ _ _; refine call_pure (f := 65) Try.call65 (.int .i64 (biasI n cnt o)) (fun ρ w' hw => hwb w' (holds_of_abs hw fun R h => hn.later h)) ?_) | (show idxRowK _ _ _ _ _ _; (refine idxRow_of o rfl hoc (Nat.le_of_eq (by rw [ints_length]; exact hB.len.symm)) ?_)) | (show rowStoreK _ _ _ _ _; refine ints_storeM (Nat.lt_of_lt_of_eq hoc hB.len.symm) ?_) | (show callK _ 59 _ _ _ _ _; (refine call_pure (f := 59) Try.call59 (.int .i64 (E : Nat)) (fun ρ w' hw => by have := entries_any w' t.base t.cap t.xs (holds_of_abs hw fun R h => rows_base h ht.rows); rw [hE] at this; exact this) ?_)) | (show drawK _ 14 _ _ _ _ _ _; refine draw_tree tabOk mixed [] _ dtMN0 (by kernel_rfl) (by kernel_rfl) (by kernel_rfl) (List.Sublist.refl _) ?_) | (show drawK _ 22 _ _ _ _ _ _; refine draw_tree tabOk mixed [13] _ dtMN1 (by kernel_rfl) (by kernel_rfl) (by kernel_rfl) (List.Sublist.refl _) ?_) | (show Wp _ _ _ _ _ _ _; refine Wp.go tabOk rfl ?_) | (show @cmpK _ _ _; (first | refine cmpY ?_ | refine cmpN ?_ | (refine cmp_both ?_ ?_ <;> intro _))) | (show wrapK _ _ _; refine wrapA ?_) | (show leK _ _ _; refine leA ?_) | (show roomK _ _ _; refine roomA ?_) | (show ltK _ _ _; refine ltA ?_) | (show _ ∧ _; refine ⟨?_, ?_⟩) | (show keepK _ _ _ _ _; refine keepA ?_) | refine own_keep ?_ | refine ap_old ?_))
      all_goals (conv => whnf)
      have hB' := hB.next hoc
      clear hB
      obtain ⟨bs', hbs⟩ : ∃ b, bs.set o (biasI n cnt o) = b := ⟨_, rfl⟩
      rw [hbs] at hB' ⊢
      have hEt : (entries t.xs).toNat = E := by rw [hE]; rfl
      refine Wp.loop (σ := Nat × List DCell) 9 (fun x => [(1, .c t.val), (10, .lp 3 0 0 0), (11, .fn (.func 64) [.agg [.c (.int .i64 n.kind), .c (.int .i64 n.a), .c (.int .i64 n.b), .c n.shape.val, .c (.int .i64 n.lo), .c (.int .i64 n.hi), .c (.int .i64 n.size), .c n.data.val, .c n.bias.val, .c t.val]] []), (12, .c (.int .i64 (cnt : Nat))), (13, .os 7 cnt), (14, .os 8 cnt), (55, .c (.int .i64 (cnt : Nat))), (56, .c (.int .i64 o)), (15, .c (.int .i64 o)), (67, .c (.int .i64 (E : Nat))), (68, .c (.int .i64 x.1))]) (fun x => [(3, .box [.c (.int .i64 n.kind), .c (.int .i64 n.a), .c (.int .i64 n.b), .c n.shape.val, .c (.int .i64 n.lo), .c (.int .i64 n.hi), .c (.int .i64 n.size), .c n.data.val, .c n.bias.val, .c t.val] 96), (7, .rows (dRows x.2) 1 33), (6, .ext (grpO 3 (dGrp x.2))), (8, .rows (ints bs') 1 3)]) (fun _ => baseA w)
        (fun x => x.1 ≤ E ∧ RowsPre n t.xs cnt o x.1 x.2) (fun x => E - x.1) (0, L) [] (by decide) (fun _ => ⟨rfl, rfl⟩) ⟨Nat.zero_le _, hL⟩ ⟨rfl, ⟨rfl, rfl, rfl, rfl, rfl, rfl, rfl, rfl, rfl, rfl, rfl, trivial⟩, ⟨(by repeat (first | exact List.mem_cons_self | apply List.mem_cons_of_mem)), (by repeat (first | exact List.mem_cons_self | apply List.mem_cons_of_mem)), (by repeat (first | exact List.mem_cons_self | apply List.mem_cons_of_mem)), (by repeat (first | exact List.mem_cons_self | apply List.mem_cons_of_mem)), trivial⟩, fun _ _ h => h⟩ ?_
      clear hL
      rintro ⟨i, M⟩ ⟨hi, hM⟩
      dsimp only at hi hM
      by_cases hiE : i < E
      · have hww : ∀ (w' : World), n.ok w' → t.ok w' → Calls Try.prog 64 #[weigherV n t, .int .i64 o, .int .i64 i] w' fun e w2 => e = .returned (.int .i64 (wgtR n t.xs o i)) ∧ Ext w' w2 := fun w' hn' ht' => weight_any w' n t s cnt hR hn' ht' o i hoc (by rw [hE]; omega)
        have hoM : o < M.length := by rw [hM.len]; exact hoc
        have hdl := dRows_length M
        obtain ⟨q, hq⟩ : ∃ q, M[o]? = some q := ⟨_, List.getElem?_eq_getElem hoM⟩
        have hqm := List.mem_of_getElem? hq
        have hq2 : q.2 = (rowW n t.xs o).take i := by
          have := hM.is o hoc
          rw [snd_getD hq, if_neg (Nat.lt_irrefl o), if_pos rfl] at this
          exact this
        have hql : q.2.length = i := by rw [hq2, List.length_take, rowW_length]; omega
        have hpush := fun l' => hM.push (l' := l') hn.data.fits (by rw [hEt]; exact hiE) (by omega) hq
        rcases hM.each q hqm with ⟨e1, e2⟩ | ⟨⟨b, off, e1⟩, e2, e3⟩
        · obtain ⟨ql, qv⟩ := q
          simp only at e1 e2
          subst e1 e2
          (repeat' ((conv => whnf) <;> first | (show drawK _ 22 _ _ _ _ _ _; refine draw_tree tabOk mixed [13] _ dtMN1 (by kernel_rfl) (by kernel_rfl) (by kernel_rfl) (List.Sublist.cons_cons _ (List.Sublist.cons_cons _ (List.Sublist.cons _ (List.Sublist.refl _)))) ?_) | (show keepK _ _ _ _ _; (first | refine keep_of (List.Sublist.cons _ (List.Sublist.cons_cons _ (List.Sublist.cons_cons _ (List.Sublist.cons _ (List.Sublist.refl _))))) (fun _ _ h => h) ?_ | refine keep_of (List.Sublist.cons_cons _ (List.Sublist.cons_cons _ (List.Sublist.cons _ (List.Sublist.refl _)))) (fun _ _ h => h) ?_)) | (show callK _ 64 _ _ _ _ _; refine call_pure (f := 64) Try.call64 (.int .i64 (wgtR n t.xs o i)) (fun ρ w' hw => hww w' (holds_of_abs hw fun R h => hn.later h) (holds_of_abs hw fun R h => ht.later h)) ?_) | (show idxRowK _ _ _ _ _ _; refine idxRow_of o rfl hoc (Nat.le_of_eq (hdl.trans hM.len).symm) ?_) | (show rowK _ _ _ _; refine row_of _ _ (dRows_get hq) rfl ?_) | (show drawK _ 14 _ _ _ _ _ _; refine draw_tree tabOk mixed [] _ dtMN0 (by kernel_rfl) (by kernel_rfl) (by kernel_rfl) (List.Sublist.refl _) ?_) | (show Wp _ _ _ _ _ _ _; refine Wp.go tabOk rfl ?_) | (show @cmpK _ _ _; (first | refine cmpY ?_ | refine cmpN ?_ | (refine cmp_both ?_ ?_ <;> intro _))) | (show wrapK _ _ _; refine wrapA ?_) | (show leK _ _ _; refine leA ?_) | (show roomK _ _ _; refine roomA ?_) | (show ltK _ _ _; refine ltA ?_) | (show _ ∧ _; refine ⟨?_, ?_⟩) | (show keepK _ _ _ _ _; refine keepA ?_) | refine ap_old ?_))
          refine own_keep ?_
          (repeat' ((conv => whnf) <;> first | (show drawK _ 22 _ _ _ _ _ _; refine draw_tree tabOk mixed [13] _ dtMN1 (by kernel_rfl) (by kernel_rfl) (by kernel_rfl) (List.Sublist.cons_cons _ (List.Sublist.cons_cons _ (List.Sublist.cons _ (List.Sublist.refl _)))) ?_) | (show keepK _ _ _ _ _; (first | refine keep_of (List.Sublist.cons _ (List.Sublist.cons_cons _ (List.Sublist.cons_cons _ (List.Sublist.cons _ (List.Sublist.refl _))))) (fun _ _ h => h) ?_ | refine keep_of (List.Sublist.cons_cons _ (List.Sublist.cons_cons _ (List.Sublist.cons _ (List.Sublist.refl _)))) (fun _ _ h => h) ?_)) | (show leK _ _ _; refine le_of (Nat.le_refl _) ?_) | (show roomK _ _ _; refine room_of (show 1 * 8 ≤ 140737488355328 by decide) ?_) | (show drawK _ 14 _ _ _ _ _ _; refine draw_tree tabOk mixed [] _ dtMN0 (by kernel_rfl) (by kernel_rfl) (by kernel_rfl) (List.Sublist.refl _) ?_) | (show Wp _ _ _ _ _ _ _; refine Wp.go tabOk rfl ?_) | (show @cmpK _ _ _; (first | refine cmpY ?_ | refine cmpN ?_ | (refine cmp_both ?_ ?_ <;> intro _))) | (show wrapK _ _ _; refine wrapA ?_) | (show leK _ _ _; refine leA ?_) | (show roomK _ _ _; refine roomA ?_) | (show ltK _ _ _; refine ltA ?_) | (show _ ∧ _; refine ⟨?_, ?_⟩) | (show keepK _ _ _ _ _; refine keepA ?_) | refine ap_old ?_))
          all_goals (conv => whnf)
          refine own_group (T := 3) (g := 6) (d := o) (us := []) (l0 := ⟨none, 0⟩) (L := dGrp M) (vs := [.int .i64 (wgtR n t.xs o i)]) ?_ (dGrp_get hq) rfl rfl rfl Nat.zero_lt_one (fun l' hlc hlb => ?_)
          · exact (by repeat (first | exact List.mem_cons_self | apply List.mem_cons_of_mem))
          have hp := hpush l' hlb hlc
          have er : dRows (M.set o (l', [] ++ [wgtR n t.xs o i])) = (dRows M).set o [.slice l'.base 1 l'.cap] := by rw [dRows_set]; rfl
          have eg : dGrp (M.set o (l', [] ++ [wgtR n t.xs o i])) = (dGrp M).set o (l', [.int .i64 (wgtR n t.xs o i)]) := by rw [dGrp_set]; rfl
          (repeat' ((conv => whnf) <;> first | (show drawK _ 22 _ _ _ _ _ _; refine draw_tree tabOk mixed [13] _ dtMN1 (by kernel_rfl) (by kernel_rfl) (by kernel_rfl) (List.Sublist.cons_cons _ (List.Sublist.cons_cons _ (List.Sublist.cons _ (List.Sublist.refl _)))) ?_) | (show keepK _ _ _ _ _; (first | refine keep_of (List.Sublist.cons _ (List.Sublist.cons_cons _ (List.Sublist.cons_cons _ (List.Sublist.cons _ (List.Sublist.refl _))))) (fun _ _ h => h) ?_ | refine keep_of (List.Sublist.cons_cons _ (List.Sublist.cons_cons _ (List.Sublist.cons _ (List.Sublist.refl _)))) (fun _ _ h => h) ?_)) | (show rowStoreK _ _ _ _ _; (refine rowStore_of _ (dRows_get hq) (by show 0 + 1 ≤ 1; omega) ?_)) | (show idxRowK _ _ _ _ _ _; refine idxRow_of o rfl hoc (Nat.le_of_eq (hdl.trans hM.len).symm) ?_) | (show drawK _ 14 _ _ _ _ _ _; refine draw_tree tabOk mixed [] _ dtMN0 (by kernel_rfl) (by kernel_rfl) (by kernel_rfl) (List.Sublist.refl _) ?_) | (show Wp _ _ _ _ _ _ _; refine Wp.go tabOk rfl ?_) | (show @cmpK _ _ _; (first | refine cmpY ?_ | refine cmpN ?_ | (refine cmp_both ?_ ?_ <;> intro _))) | (show wrapK _ _ _; refine wrapA ?_) | (show leK _ _ _; refine leA ?_) | (show roomK _ _ _; refine roomA ?_) | (show ltK _ _ _; refine ltA ?_) | (show _ ∧ _; refine ⟨?_, ?_⟩) | (show keepK _ _ _ _ _; refine keepA ?_) | refine own_keep ?_ | refine ap_old ?_))
          all_goals (conv => whnf)
          refine ⟨(i + 1, M.set o (l', [] ++ [wgtR n t.xs o i])), [], ⟨hiE, hp⟩, by show E - (i + 1) < E - i; omega, rfl, ⟨rfl, rfl, rfl, rfl, rfl, rfl, rfl, rfl, rfl, rfl, rfl, trivial⟩, ?_, fun _ _ h => h⟩
          show heapInto [] _ [(3, .box [.c (.int .i64 n.kind), .c (.int .i64 n.a), .c (.int .i64 n.b), .c n.shape.val, .c (.int .i64 n.lo), .c (.int .i64 n.hi), .c (.int .i64 n.size), .c n.data.val, .c n.bias.val, .c t.val] 96), (7, .rows (dRows (M.set o (l', [] ++ [wgtR n t.xs o i]))) 1 33), (6, .ext (grpO 3 (dGrp (M.set o (l', [] ++ [wgtR n t.xs o i]))))), (8, .rows (ints bs') 1 3)]
          rw [eg, er]
          exact ⟨(by repeat (first | exact List.mem_cons_self | apply List.mem_cons_of_mem)), (by repeat (first | exact List.mem_cons_self | apply List.mem_cons_of_mem)), (by repeat (first | exact List.mem_cons_self | apply List.mem_cons_of_mem)), (by repeat (first | exact List.mem_cons_self | apply List.mem_cons_of_mem)), trivial⟩
        · obtain ⟨ql, qv⟩ := q
          simp only at e1 e2 e3 hql
          have hrow : (dRows M)[o]? = some [.slice (some ⟨b, off, none⟩) i ql.cap] := by rw [dRows_get hq, dRow, e1, hql]
          (repeat' ((conv => whnf) <;> first | (show drawK _ 22 _ _ _ _ _ _; refine draw_tree tabOk mixed [13] _ dtMN1 (by kernel_rfl) (by kernel_rfl) (by kernel_rfl) (List.Sublist.cons_cons _ (List.Sublist.cons_cons _ (List.Sublist.cons _ (List.Sublist.refl _)))) ?_) | (show keepK _ _ _ _ _; (first | refine keep_of (List.Sublist.cons _ (List.Sublist.cons_cons _ (List.Sublist.cons_cons _ (List.Sublist.cons _ (List.Sublist.refl _))))) (fun _ _ h => h) ?_ | refine keep_of (List.Sublist.cons_cons _ (List.Sublist.cons_cons _ (List.Sublist.cons _ (List.Sublist.refl _)))) (fun _ _ h => h) ?_)) | (show callK _ 64 _ _ _ _ _; refine call_pure (f := 64) Try.call64 (.int .i64 (wgtR n t.xs o i)) (fun ρ w' hw => hww w' (holds_of_abs hw fun R h => hn.later h) (holds_of_abs hw fun R h => ht.later h)) ?_) | (show idxRowK _ _ _ _ _ _; refine idxRow_of o rfl hoc (Nat.le_of_eq (hdl.trans hM.len).symm) ?_) | (show rowK _ _ _ _; refine row_of _ _ hrow rfl ?_) | (show drawK _ 14 _ _ _ _ _ _; refine draw_tree tabOk mixed [] _ dtMN0 (by kernel_rfl) (by kernel_rfl) (by kernel_rfl) (List.Sublist.refl _) ?_) | (show Wp _ _ _ _ _ _ _; refine Wp.go tabOk rfl ?_) | (show @cmpK _ _ _; (first | refine cmpY ?_ | refine cmpN ?_ | (refine cmp_both ?_ ?_ <;> intro _))) | (show wrapK _ _ _; refine wrapA ?_) | (show leK _ _ _; refine leA ?_) | (show roomK _ _ _; refine roomA ?_) | (show ltK _ _ _; refine ltA ?_) | (show _ ∧ _; refine ⟨?_, ?_⟩) | (show keepK _ _ _ _ _; refine keepA ?_)))
          all_goals (conv => whnf)
          refine own_keep ?_
          (repeat' ((conv => whnf) <;> first | (show drawK _ 22 _ _ _ _ _ _; refine draw_tree tabOk mixed [13] _ dtMN1 (by kernel_rfl) (by kernel_rfl) (by kernel_rfl) (List.Sublist.cons_cons _ (List.Sublist.cons_cons _ (List.Sublist.cons _ (List.Sublist.refl _)))) ?_) | (show keepK _ _ _ _ _; (first | refine keep_of (List.Sublist.cons _ (List.Sublist.cons_cons _ (List.Sublist.cons_cons _ (List.Sublist.cons _ (List.Sublist.refl _))))) (fun _ _ h => h) ?_ | refine keep_of (List.Sublist.cons_cons _ (List.Sublist.cons_cons _ (List.Sublist.cons _ (List.Sublist.refl _)))) (fun _ _ h => h) ?_)) | (show leK _ _ _; refine le_of (Nat.le_refl _) ?_) | (show drawK _ 14 _ _ _ _ _ _; refine draw_tree tabOk mixed [] _ dtMN0 (by kernel_rfl) (by kernel_rfl) (by kernel_rfl) (List.Sublist.refl _) ?_) | (show Wp _ _ _ _ _ _ _; refine Wp.go tabOk rfl ?_) | (show @cmpK _ _ _; (first | refine cmpY ?_ | refine cmpN ?_ | (refine cmp_both ?_ ?_ <;> intro _))) | (show wrapK _ _ _; refine wrapA ?_) | (show leK _ _ _; refine leA ?_) | (show roomK _ _ _; refine roomA ?_) | (show ltK _ _ _; refine ltA ?_) | (show _ ∧ _; refine ⟨?_, ?_⟩) | (show keepK _ _ _ _ _; refine keepA ?_)))
          all_goals (conv => whnf)
          obtain ⟨ii, hii, hi0, hi1, hi2⟩ := info_parts ap_info
          refine ⟨.inr ?_⟩
          refine ap_group (T := 3) (xe := 3) (g := 6) (d := o) (L := dGrp M) (l := ql) (vs := qv.map (Value.int .i64)) (v := .int .i64 (wgtR n t.xs o i)) (b := b) (off := off) (i := ii) (z := .int .i64 0) Try.underlying33 Try.underlying33 hii hi0 hi1 hi2 rfl ?_ (dGrp_get hq) e1 (by rw [List.length_map]; exact e3) (by rw [List.length_map]; omega) (fun u hu => by obtain ⟨x, _, rfl⟩ := List.mem_map.1 hu; rfl) rfl i (by rw [List.length_map]; exact hql.symm) ql.cap rfl (fun l' hlc hlb => ?_)
          · exact (by repeat (first | exact List.mem_cons_self | apply List.mem_cons_of_mem))
          rw [List.length_map] at hlc
          rw [List.length_map, hql]
          have hp := hpush l' hlb hlc
          have er : dRows (M.set o (l', qv ++ [wgtR n t.xs o i])) = (dRows M).set o [.slice l'.base (i + 1) l'.cap] := by rw [dRows_set]; simp [dRow, hql]
          have eg : dGrp (M.set o (l', qv ++ [wgtR n t.xs o i])) = (dGrp M).set o (l', qv.map (Value.int .i64) ++ [.int .i64 (wgtR n t.xs o i)]) := by rw [dGrp_set]; simp
          (repeat' ((conv => whnf) <;> first | (show drawK _ 22 _ _ _ _ _ _; refine draw_tree tabOk mixed [13] _ dtMN1 (by kernel_rfl) (by kernel_rfl) (by kernel_rfl) (List.Sublist.cons_cons _ (List.Sublist.cons_cons _ (List.Sublist.cons _ (List.Sublist.refl _)))) ?_) | (show keepK _ _ _ _ _; (first | refine keep_of (List.Sublist.cons _ (List.Sublist.cons_cons _ (List.Sublist.cons_cons _ (List.Sublist.cons _ (List.Sublist.refl _))))) (fun _ _ h => h) ?_ | refine keep_of (List.Sublist.cons_cons _ (List.Sublist.cons_cons _ (List.Sublist.cons _ (List.Sublist.refl _)))) (fun _ _ h => h) ?_)) | (show rowStoreK _ _ _ _ _; (refine rowStore_of _ (dRows_get hq) (by show 0 + 1 ≤ 1; omega) ?_)) | (show idxRowK _ _ _ _ _ _; refine idxRow_of o rfl hoc (Nat.le_of_eq (hdl.trans hM.len).symm) ?_) | (show drawK _ 14 _ _ _ _ _ _; refine draw_tree tabOk mixed [] _ dtMN0 (by kernel_rfl) (by kernel_rfl) (by kernel_rfl) (List.Sublist.refl _) ?_) | (show Wp _ _ _ _ _ _ _; refine Wp.go tabOk rfl ?_) | (show @cmpK _ _ _; (first | refine cmpY ?_ | refine cmpN ?_ | (refine cmp_both ?_ ?_ <;> intro _))) | (show wrapK _ _ _; refine wrapA ?_) | (show leK _ _ _; refine leA ?_) | (show roomK _ _ _; refine roomA ?_) | (show ltK _ _ _; refine ltA ?_) | (show _ ∧ _; refine ⟨?_, ?_⟩) | (show keepK _ _ _ _ _; refine keepA ?_) | refine own_keep ?_ | refine ap_old ?_))
          all_goals (conv => whnf)
          refine ⟨(i + 1, M.set o (l', qv ++ [wgtR n t.xs o i])), [], ⟨hiE, hp⟩, by show E - (i + 1) < E - i; omega, rfl, ⟨rfl, rfl, rfl, rfl, rfl, rfl, rfl, rfl, rfl, rfl, rfl, trivial⟩, ?_, fun _ _ h => h⟩
          show heapInto [] _ [(3, .box [.c (.int .i64 n.kind), .c (.int .i64 n.a), .c (.int .i64 n.b), .c n.shape.val, .c (.int .i64 n.lo), .c (.int .i64 n.hi), .c (.int .i64 n.size), .c n.data.val, .c n.bias.val, .c t.val] 96), (7, .rows (dRows (M.set o (l', qv ++ [wgtR n t.xs o i]))) 1 33), (6, .ext (grpO 3 (dGrp (M.set o (l', qv ++ [wgtR n t.xs o i]))))), (8, .rows (ints bs') 1 3)]
          rw [eg, er]
          exact ⟨(by repeat (first | exact List.mem_cons_self | apply List.mem_cons_of_mem)), (by repeat (first | exact List.mem_cons_self | apply List.mem_cons_of_mem)), (by repeat (first | exact List.mem_cons_self | apply List.mem_cons_of_mem)), (by repeat (first | exact List.mem_cons_self | apply List.mem_cons_of_mem)), trivial⟩
      · (repeat' ((conv => whnf) <;> first | (show drawK _ 14 _ _ _ _ _ _; refine draw_tree tabOk mixed [] _ dtMN0 (by kernel_rfl) (by kernel_rfl) (by kernel_rfl) (List.Sublist.refl _) ?_) | (show drawK _ 22 _ _ _ _ _ _; refine draw_tree tabOk mixed [13] _ dtMN1 (by kernel_rfl) (by kernel_rfl) (by kernel_rfl) (List.Sublist.refl _) ?_) | (show Wp _ _ _ _ _ _ _; refine Wp.go tabOk rfl ?_) | (show @cmpK _ _ _; (first | refine cmpY ?_ | refine cmpN ?_ | (refine cmp_both ?_ ?_ <;> intro _))) | (show wrapK _ _ _; refine wrapA ?_) | (show leK _ _ _; refine leA ?_) | (show roomK _ _ _; refine roomA ?_) | (show ltK _ _ _; refine ltA ?_) | (show _ ∧ _; refine ⟨?_, ?_⟩) | (show keepK _ _ _ _ _; refine keepA ?_) | refine own_keep ?_ | refine ap_old ?_))
        all_goals (conv => whnf)
        have hie : i = E := by omega
        rw [hie, ← hEt] at hM
        exact ⟨(o + 1, M, bs'), [], ⟨hoc, hM.next, hB'⟩, by show cnt - (o + 1) < cnt - o; omega, rfl, ⟨rfl, rfl, rfl, rfl, rfl, rfl, rfl, rfl, trivial⟩, ⟨(by repeat (first | exact List.mem_cons_self | apply List.mem_cons_of_mem)), (by repeat (first | exact List.mem_cons_self | apply List.mem_cons_of_mem)), (by repeat (first | exact List.mem_cons_self | apply List.mem_cons_of_mem)), (by repeat (first | exact List.mem_cons_self | apply List.mem_cons_of_mem)), trivial⟩, fun _ _ h => h⟩
    · (repeat' ((conv => whnf) <;> first | (show drawK _ 14 _ _ _ _ _ _; refine draw_tree tabOk mixed [] _ dtMN0 (by kernel_rfl) (by kernel_rfl) (by kernel_rfl) (List.Sublist.refl _) ?_) | (show drawK _ 22 _ _ _ _ _ _; refine draw_tree tabOk mixed [13] _ dtMN1 (by kernel_rfl) (by kernel_rfl) (by kernel_rfl) (List.Sublist.refl _) ?_) | (show Wp _ _ _ _ _ _ _; refine Wp.go tabOk rfl ?_) | (show @cmpK _ _ _; (first | refine cmpY ?_ | refine cmpN ?_ | (refine cmp_both ?_ ?_ <;> intro _))) | (show wrapK _ _ _; refine wrapA ?_) | (show leK _ _ _; refine leA ?_) | (show roomK _ _ _; refine roomA ?_) | (show ltK _ _ _; refine ltA ?_) | (show _ ∧ _; refine ⟨?_, ?_⟩) | (show keepK _ _ _ _ _; refine keepA ?_) | refine own_keep ?_ | refine ap_old ?_))
      all_goals (conv => whnf)
      have hoe : o = cnt := by omega
      rw [hoe] at hL hB
      exact rows_end (i := 7) (g := 6) (j := 8) (fun _ _ h => h) rfl hL.each hL.fits hL.len.symm hB.len.symm (fun x hx => by rw [hB.done] at hx; obtain ⟨k, _, rfl⟩ := List.mem_map.1 hx; exact biasI_i64 hn.bias.fits cnt k) (by rw [hB.len]; omega) (by repeat (first | exact List.mem_cons_self | apply List.mem_cons_of_mem)) (by repeat (first | exact List.mem_cons_self | apply List.mem_cons_of_mem)) (by repeat (first | exact List.mem_cons_self | apply List.mem_cons_of_mem)) (by rw [hL.done, ← hB.done])
theorem rowsLin_any (w : World) (n : NodeV) (t : IntsV) (hn : n.ok w) (hsm : n.small) (ht : t.ok w) : Calls Try.prog 35 #[n.valA, t.val] w (RowsPost w (rowsR n t)) := by
  by_cases hok : okRows n t
  · exact rowsLin_ok w n t hn hsm ht hok
  · exact rowsLin_no w n t hn hsm ht hok
end Go.Proofs.Ytdmkdogakbipbaa

/- IH -/
namespace Go.Proofs.Ytdmkdogakbipbaa
open Go.SX Go.RowKit
/-- a call of Spans -/
theorem call_spans {cx : Cx} {f : FuncId} {args : List SV} {H : Heap} {S : Asn} {nx : Nat} {K : SV → Heap → Asn → Nat → Prop} (r : Int × List Sp) (hf : ∀ ar w, (callFunc f ar).run cx.P w = .ok (.enter f ar) w)
    (hc : ∀ ρ w', Abs cx.B ρ nx H S w' → Calls cx.P f (SV.rfs ρ args).toArray w' (SpansPost w' r))
    (h0 : r.1 ≠ 0 → K (.c (.tuple #[.slice none 0 0, .int .i64 r.1])) H S nx)
    (h1 : r.1 = 0 → ∀ base cap, K (.c (.tuple #[.slice base r.2.length cap, .int .i64 0])) H (S.and ((rowsA base 2 (spRows r.2)).past cx.B.w0.heap.size)) nx) : callK cx f args H S nx K := by
  rw [callK_def]
  refine ⟨hf, fun ρ w hw => (hc ρ w hw).mono ?_⟩
  rintro e w' (⟨hr, rfl, he⟩ | ⟨hr, v, rfl, he, hn⟩)
  · exact ⟨.c (.tuple #[.slice none 0 0, .int .i64 r.1]), ρ, H, S, nx, rfl, fun _ _ => rfl, Nat.le_refl _, SV.lt_c _, hw.ext he, h0 hr⟩
  · obtain ⟨base, cap, e1, hD⟩ := newRows_data hn
    rw [spRows_length] at e1
    subst e1
    exact ⟨.c (.tuple #[.slice base r.2.length cap, .int .i64 0]), ρ, H, _, nx, rfl, fun _ _ => rfl, Nat.le_refl _, SV.lt_c _, hw.grow he hD, h1 hr base cap⟩
theorem getD_xs (l : List IntsV) (k : Nat) : (l.getD k nilI).xs = (l.map IntsV.xs).getD k [] := by
  rcases Nat.lt_or_ge k l.length with hk | hk
  · simp [List.getD_eq_getElem?_getD, hk]
  · simp [List.getD_eq_getElem?_getD, hk, nilI]
end Go.Proofs.Ytdmkdogakbipbaa

/- IY -/
namespace Go.Proofs.Ytdmkdogakbipbaa
open Go.SX Go.RowKit
def numsAt (sh : List (List Int)) (n : NodeV) (known : List (List Int)) : List Int := numsA n (entries (sh.getD known.length [])).toNat (sh.getD n.a.toNat []) (known.getD n.a.toNat []) (known.getD n.b.toNat [])
def valsQ (sh : List (List Int)) : List NodeV → List (List Int) → List (List Int) → Int × List (List Int)
  | [], known, inp => if 0 < inp.length then (12, []) else (0, known)
  | n :: r, known, inp =>
    if n.kind ≠ 1 then valsQ sh r (known ++ [numsAt sh n known]) inp
    else match inp with
      | [] => (12, [])
      | x :: xs => if (x.length : Int) ≠ entries (sh.getD known.length []) ∨ foldI min x < n.lo ∨ n.hi < foldI max x then (12, []) else valsQ sh r (known ++ [x]) xs
def valsH (g : GraphV) (inp : List (List Int)) : Int × List (List Int) := valsQ (check g).2 g.l [] inp
def runH (g : GraphV) (inp : List (List Int)) : Int × List Int :=
  if (spansH g).1 ≠ 0 then ((spansH g).1, []) else if (valsH g inp).1 ≠ 0 then ((valsH g inp).1, []) else (0, (valsH g inp).2.getD g.out.toNat [])
def spanAt (sh : List (List Int)) (n : NodeV) (acc : List Sp) : Sp := spanE (endsAt sh n acc)
theorem spansQ_in {sh : List (List Int)} : ∀ {l : List NodeV} {acc S : List Sp}, spansQ sh l acc = (0, S) → ∃ q, S = acc ++ q ∧ q.length = l.length ∧ ∀ i n, l[i]? = some n → ∃ s, q[i]? = some s ∧ s = spanAt sh n (acc ++ q.take i) ∧ -1048576 ≤ s.1 ∧ s.2 ≤ 1048576
  | [], acc, S, h => by
    obtain rfl : acc = S := by simpa [spansQ] using h
    exact ⟨[], by simp, rfl, fun i n hn => by simp at hn⟩
  | m :: r, acc, S, h => by
    by_cases hr : (spanAt sh m acc).1 < -1048576 ∨ 1048576 < (spanAt sh m acc).2
    · have : spansQ sh (m :: r) acc = (5, []) := if_pos hr
      rw [this] at h; simp at h
    · have : spansQ sh (m :: r) acc = spansQ sh r (acc ++ [spanAt sh m acc]) := if_neg hr
      rw [this] at h
      obtain ⟨q, hq, hl, ha⟩ := spansQ_in h
      refine ⟨spanAt sh m acc :: q, by rw [hq, List.append_assoc]; rfl, by simp [hl], fun i n hin => ?_⟩
      cases i with
      | zero =>
        simp only [List.getElem?_cons_zero, Option.some.injEq] at hin
        subst hin
        exact ⟨_, rfl, by simp, by omega, by omega⟩
      | succ i =>
        simp only [List.getElem?_cons_succ] at hin
        obtain ⟨t, h1, h2, h3⟩ := ha i n hin
        refine ⟨t, by simpa using h1, ?_, h3⟩
        rw [List.take_succ_cons, show acc ++ spanAt sh m acc :: q.take i = acc ++ [spanAt sh m acc] ++ q.take i by simp]
        exact h2
theorem spansH_in {g : GraphV} (h : (spansH g).1 = 0) : (check g).1 = 0 ∧ (spansH g).2.length = g.l.length ∧ ∀ i n, g.l[i]? = some n → ∃ s, (spansH g).2[i]? = some s ∧ s = spanAt (check g).2 n ((spansH g).2.take i) ∧ -1048576 ≤ s.1 ∧ s.2 ≤ 1048576 := by
  unfold spansH at h ⊢
  by_cases hc : (check g).1 ≠ 0
  · rw [if_pos hc] at h; exact absurd h hc
  · rw [if_neg hc] at h ⊢
    obtain ⟨q, hq, hl, ha⟩ := spansQ_in (l := g.l) (acc := []) (S := (spansQ (check g).2 g.l []).2) (Prod.ext h rfl)
    rw [List.nil_append] at hq
    rw [hq]
    exact ⟨by omega, hl, fun i n hn => by simpa using ha i n hn⟩
/-- known so far: as many as there should be, within their spans -/
structure KnownH (g : GraphV) (kn : List IntsV) (i : Nat) : Prop where
  len : kn.length = i
  sane : ∀ u ∈ kn, u.sane
  each : ∀ (j : Nat) (u : IntsV) (s : Sp) (q : List Int), kn[j]? = some u → (spansH g).2[j]? = some s → (check g).2[j]? = some q → within s u.xs ∧ (u.xs.length : Int) = entries q
theorem known_argH {g : GraphV} {kn : List IntsV} {i : Nat} (hsp : (spansH g).1 = 0) (hkn : KnownH g kn i) (hi : i ≤ g.l.length) (k : Nat) : within (((spansH g).2.take i).getD k (0, 0)) (kn.getD k nilI).xs ∧ (∀ x ∈ (kn.getD k nilI).xs, bd20 x) ∧ (k < i → ((kn.getD k nilI).xs.length : Int) = entries (((check g).2.take i).getD k [])) := by
  obtain ⟨hck, hsl, hsi⟩ := spansH_in hsp
  obtain ⟨hl1, hl24, hout, hcl, hin⟩ := check_in hck
  have hkl := hkn.len
  rcases Nat.lt_or_ge k i with hk | hk
  · have hkg : k < g.l.length := by omega
    obtain ⟨p, hp, _, hp1, hp2⟩ := hsi k g.l[k] (List.getElem?_eq_getElem hkg)
    obtain ⟨s, hs, _⟩ := hin k g.l[k] (List.getElem?_eq_getElem hkg)
    have hk' : k < kn.length := by omega
    obtain ⟨h1, h2⟩ := hkn.each k kn[k] p s (List.getElem?_eq_getElem hk') hp hs
    have e1 : kn.getD k nilI = kn[k] := by rw [List.getD_eq_getElem?_getD, List.getElem?_eq_getElem hk']; rfl
    have e2 : ((spansH g).2.take i).getD k (0, 0) = p := by rw [List.getD_eq_getElem?_getD, List.getElem?_take, if_pos hk, hp]; rfl
    have e3 : ((check g).2.take i).getD k [] = s := by rw [List.getD_eq_getElem?_getD, List.getElem?_take, if_pos hk, hs]; rfl
    rw [e1, e2, e3]
    exact ⟨h1, fun x hx => by have := h1 x hx; unfold bd20; omega, fun _ => h2⟩
  · have e1 : kn.getD k nilI = nilI := by rw [List.getD_eq_getElem?_getD, List.getElem?_eq_none (by omega)]; rfl
    rw [e1]
    exact ⟨fun x hx => by simp [nilI] at hx, fun x hx => by simp [nilI] at hx, fun h => by omega⟩
theorem num_inH {g : GraphV} {kn : List IntsV} {i : Nat} {n : NodeV} (hsp : (spansH g).1 = 0) (hkn : KnownH g kn i) (hi : i ≤ g.l.length) (hf : Formed n i) : NumIn n ((check g).2.take i) (kn.getD n.a.toNat nilI).xs (kn.getD n.b.toNat nilI).xs :=
  ⟨fun k1 k2 => (known_argH hsp hkn hi n.a.toNat).2.2 (by have := hf.a k1 k2; omega), fun k6 => (known_argH hsp hkn hi n.b.toNat).2.2 (by have := hf.b k6; omega)⟩
theorem known_snocH {g : GraphV} {kn : List IntsV} {i : Nat} {x : IntsV} {s : List Int} {p : Sp} (hkn : KnownH g kn i) (hx : x.sane) (hp : (spansH g).2[i]? = some p) (hs : (check g).2[i]? = some s) (hw : within p x.xs) (hl : (x.xs.length : Int) = entries s) : KnownH g (kn ++ [x]) (i + 1) := by
  have hkl := hkn.len
  refine ⟨by rw [List.length_append, hkl]; rfl, fun u hu => ?_, fun j u p' q hu hp' hq => ?_⟩
  · rcases List.mem_append.1 hu with h | h
    · exact hkn.sane u h
    · simp at h; subst h; exact hx
  · rcases Nat.lt_or_ge j i with hj | hj
    · rw [List.getElem?_append_left (by omega)] at hu
      exact hkn.each j u p' q hu hp' hq
    · rw [List.getElem?_append_right (by omega)] at hu
      have h0 : j - kn.length = 0 := by
        rcases Nat.eq_zero_or_pos (j - kn.length) with h | h
        · exact h
        · rw [List.getElem?_eq_none (by simp; omega)] at hu; cases hu
      rw [h0] at hu
      simp only [List.getElem?_cons_zero, Option.some.injEq] at hu
      subst hu
      obtain rfl : j = i := by omega
      rw [hp] at hp'
      rw [hs] at hq
      simp only [Option.some.injEq] at hp' hq
      subst hp' hq
      exact ⟨hw, hl⟩
end Go.Proofs.Ytdmkdogakbipbaa

