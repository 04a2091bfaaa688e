import Derived.RangeFuncGives
import Derived.RangeFuncBox
import Derived.RangeFuncLeaves
import Derived.Maps.AppendAt
import Derived.Shelf.Abstract
import Derived.WalkKit
import Derived.OwnWalkIn
import Derived.TacticsInMore
import Derived.LoopNIn
import Derived.LoopIn
import Derived.RegionIn
import Derived.Test.YtgndjjdeopfdkaaGreatProg
import Derived.Shelf.Sort.Plain
import Derived.Shelf.Slices.CompactI
import Derived.Shelf.Slices.In.SortNone
import Derived.Shelf.Spec.SlicesGrow
import Derived.Test.YtgndjjdeopfdkaaGreatKLowerFewer6
/- LA -/
namespace Go.Proofs.YtgndjjdeopfdkaaGreat
open Go.RowKit Go.Maps Go.Shelf
/-- an iterator's value, for bodies that keep what lay before the loop -/
def SeqOver (F : Fence) (n : Nat) (g : Nat) (lb : Array Value) (S : List Int → Prop) (N : Nat) (w : World) : Prop :=
  ∀ (l : Nat) (J : List Int → World → Prop) (W : World), Below w.heap.size w W → (∀ pre W1, J pre W1 → Below w.heap.size w W1) →
    (∀ pre x W1, J pre W1 → pre.length < N → YieldAt F (n - 1) Tryz.prog l #[(Value.int .i64 x)] W1 fun e W' => e = .returned (.bool true) ∧ J (pre ++ [x]) W' ∧ KeepsWalks W1 W') →
    J [] W → CallsIn F n Tryz.prog g (#[.func (.yield l) #[] #[]] ++ lb) W fun e W' => (∃ v, e = .returned v) ∧ ∃ xs, S xs ∧ J xs W'
def apAssign : Code := (Code.region 2 #[{ dst := some 5, op := Op.assign (Operand.tmp 7), type := 3, pos := "iter.go:51", after := #[], guard := none }] false)
def apBody : Code := (Code.block 1 (Code.region 3 #[{ dst := some 8, op := Op.load 32 (Operand.tmp 2), type := 32, pos := "iter.go:52", after := #[], guard := none }, { dst := some 9, op := Op.move (Operand.tmp 5), type := 3, pos := "iter.go:52", after := #[], guard := none }, { dst := some 10, op := Op.buildSlice 32 1 #[(0, Operand.tmp 9)], type := 32, pos := "iter.go:52", after := #[{ on := 1, ground := Ground.data }], guard := none }, { dst := some 11, op := Op.call { callee := Callee.builtin Builtin.append, args := #[Operand.tmp 8, Operand.tmp 10], argTypes := #[32, 32] }, type := 32, pos := "iter.go:52", after := #[{ on := 0, ground := Ground.data }, { on := 2, ground := Ground.data }], guard := none }, { dst := none, op := Op.store 32 (Operand.tmp 2) (Operand.tmp 11), type := 0, pos := "iter.go:52", after := #[{ on := 3, ground := Ground.data }, { on := 3, ground := Ground.chain }, { on := 0, ground := Ground.phase }, { on := 1, ground := Ground.phase }, { on := 2, ground := Ground.phase }, { on := 3, ground := Ground.phase }], guard := none }] false))
def apRec (fn : FuncId) (sv : Value) (Bs D : Nat) (st : LoopState) (pend : Option Code) : Loop :=
  { state := st, pending := pend, fn, tmps := #[.slice none 0 0, sv, .pointer (some ⟨Bs, 0, none⟩), undef, .slice none 0 0, undef, sv, undef, undef, undef, undef, undef, undef], params := #[7], assign := apAssign, body := apBody, defers := D }

structure ApAt (w0 : World) (fn : FuncId) (sv : Value) (Bs l D : Nat) (ss : List Int) (W : World) : Prop where
  box : ∃ v, W.heap[Bs]? = some (.cells #[v] 32 (0, 0)) ∧ W.ownsRow w0.heap.size 3 1 v ss.length (ss.map (Value.int .i64)) ∧ (v = .slice none 0 0 ↔ ss = [])
  L : W.heap[l]? = some (.loop (apRec fn sv Bs D .ready none))
  K : W.heap[D]? = some (.deferred (some []))
  below : Below w0.heap.size w0 W

theorem grownBy_putObj (W : World) (l : Nat) (o : Obj) : W.grownBy (W.putObj l o) (some l) :=
  ⟨rfl, rfl, rfl, by simp, fun k _ hk => World.putObj_heap_other (fun e => hk (by rw [e]))⟩
theorem grownBy_setCell0 (W : World) (b : Nat) (v : Value) : W.grownBy (W.setCell ⟨b, 0, none⟩ v) (some b) :=
  ⟨rfl, rfl, rfl, (KeepsWalks.setCell W _ v).size, fun k _ hk => Below.heap_setCell _ _ _ k (fun e => hk (by rw [e]))⟩
theorem ownsRow_ne {W : World} {base : Nat} {e : TypeId} {size : Nat} {v : Value} {k : Nat} {xs : List Value} (h : W.ownsRow base e size v k xs) {j : Nat} {o : Obj} (hj : W.heap[j]? = some o) (hno : ∀ cur, o ≠ .cells cur e (0, 0)) :
    v.ownBlock = none ∨ v.ownBlock ≠ some j := by
  rcases h.2 with ⟨rfl, _⟩ | ⟨g, cap, cur, rfl, _, hgb, _⟩
  · exact .inl rfl
  · refine .inr fun e' => ?_
    have : g = j := by simpa [Value.ownBlock] using e'
    subst this; rw [hgb] at hj; cases hj; exact hno cur rfl
theorem cell_of_box {W : World} {B : Nat} {v : Value} {t : TypeId} (h : W.heap[B]? = some (.cells #[v] t (0, 0))) : W.cell? ⟨B, 0, none⟩ = some v ∧ W.frozen? ⟨B, 0, none⟩ = false := by
  constructor <;> simp [World.cell?, World.frozen?, h]

theorem heap_setCell_box {W : World} {B : Nat} {v : Value} {t : TypeId} (v' : Value) (h : W.heap[B]? = some (.cells #[v] t (0, 0))) : (W.setCell ⟨B, 0, none⟩ v').heap[B]? = some (.cells #[v'] t (0, 0)) := by
  obtain ⟨hlt, hk⟩ := Array.getElem?_eq_some_iff.1 h
  show (W.heap.modify B _)[B]? = _
  rw [Array.getElem?_eq_getElem (by rw [Array.size_modify]; exact hlt), Array.getElem_modify_self, hk]
  rfl
theorem ownsRow_not_walk {W : World} {base : Nat} {e : TypeId} {size : Nat} {v : Value} {k : Nat} {xs : List Value} (h : W.ownsRow base e size v k xs) : ∀ (j : Nat) (o : Obj), v.ownBlock = some j → W.heap[j]? = some o → o.isWalk = false := by
  intro j o hj ho
  rcases h.2 with ⟨rfl, _⟩ | ⟨g, cap, cur, rfl, _, hgb, _⟩
  · simp [Value.ownBlock] at hj
  · have : g = j := by simpa [Value.ownBlock] using hj
    subst this; rw [hgb] at ho; cases ho; rfl

theorem ap_info : (Tryz.prog.info? 3).map (fun i => (i.zero, i.size, i.bytes)) = some (some (.int .i64 0), 1, 8) := by kernel_rfl

set_option maxRecDepth 100000 in
set_option maxHeartbeats 2000000 in
theorem apYield (F : Fence) (m : Nat) (w0 : World) (fn : FuncId) (hfn : F.fn fn) (sv : Value) (Bs l D : Nat) (hBl : Bs ≠ l) (hDl : D ≠ l) (hDB : D ≠ Bs) (h0B : w0.heap.size ≤ Bs) (h0l : w0.heap.size ≤ l)
    (N : Nat) (hN : N ≤ maxLen) (hNb : N * 8 ≤ 140737488355328) (ss : List Int) (x : Int) (W : World) (h : ApAt w0 fn sv Bs l D ss W) (hlen : ss.length < N) :
    YieldAt F m Tryz.prog l #[(Value.int .i64 x)] W fun e W' => e = .returned (.bool true) ∧ ApAt w0 fn sv Bs l D (ss ++ [x]) W' ∧ KeepsWalks W W' := by
  obtain ⟨i0, hi, hz0, hz1, hz2⟩ := info_parts ap_info
  obtain ⟨v, hv, hrow, _⟩ := h.box
  refine ⟨fn, #[.slice none 0 0, sv, .pointer (some ⟨Bs, 0, none⟩), undef, .slice none 0 0, undef, sv, (Value.int .i64 x), undef, undef, undef, undef, undef], apAssign, apBody, by simpa [apRec] using run_yield (P := Tryz.prog) (args := #[(Value.int .i64 x)]) h.L rfl, roundIn_of_wpIn hfn ?_⟩
  have hl : l < W.heap.size := (Array.getElem?_eq_some_iff.1 h.L).1
  have hbr := run_beginRound (P := Tryz.prog) h.L rfl
  obtain ⟨W2, hW2⟩ : ∃ W2, W.putObj l (.loop { apRec fn sv Bs D .ready none with state := .busy }) = W2 := ⟨_, rfl⟩
  rw [hW2] at hbr
  have hg2 : W.grownBy W2 (some l) := by rw [← hW2]; exact grownBy_putObj _ _ _
  have hk2 : KeepsWalks W W2 := by rw [← hW2]; exact KeepsWalks.putObj _ h.L rfl
  have hv2 : W2.heap[Bs]? = some (.cells #[v] 32 (0, 0)) := by rw [← hW2]; exact (World.putObj_heap_other hBl).trans hv
  have hK2 : W2.heap[D]? = some (.deferred (some [])) := by rw [← hW2]; exact (World.putObj_heap_other hDl).trans h.K
  have hL2 : W2.heap[l]? = some (.loop { apRec fn sv Bs D .ready none with state := .busy }) := by rw [← hW2]; exact World.putObj_heap_same hl
  have hrow2 : W2.ownsRow w0.heap.size 3 1 v ss.length (ss.map (Value.int .i64)) := hrow.kept hg2 (ownsRow_ne hrow h.L (fun cur e => by cases e))
  have hb2 : Below w0.heap.size w0 W2 := h.below.grown hg2 h.below.size (fun k e => by cases e; exact h0l)
  obtain ⟨hc2, hf2⟩ := cell_of_box hv2
  have hBlt : Bs < W2.heap.size := (Array.getElem?_eq_some_iff.1 hv2).1
  have hl2 : l < W2.heap.size := (Array.getElem?_eq_some_iff.1 hL2).1
  have hDlt : D < W2.heap.size := (Array.getElem?_eq_some_iff.1 hK2).1
  have ne_of : ∀ {j : Nat} {o : Obj}, W2.heap[j]? = some o → (∀ cur, o ≠ .cells cur 3 (0, 0)) → some j ≠ v.ownBlock := fun hj hno => by
    rcases ownsRow_ne hrow2 hj hno with e | e
    · rw [e]; simp
    · exact fun e' => e e'.symm
  clear hW2
  unfold apAssign
  gi_wp2_with (rw [Oper.semAt_eq _ _ _ (fun c h => by cases h)]; go_simp; try go_bits)
  unfold apBody
  gi_wp2_with (first
    | (gi_at_builtin; refine wpListIn_append_own _ rfl _ _ 32 rfl w0.heap.size 3 i0 (.int .i64 0) 1 8 Tryz.underlying32 hi hz0 hz1 hz2 rfl (by decide) _ _ _ rfl (hrow2.alloc _) ⟨W2.heap.size, 0, none⟩ 1 1 [(Value.int .i64 x)] rfl rfl (cell_one_new _ _ _) (by simp [Value.oneCell']) (by omega) (by omega) (by have := hb2.size; simp; omega) ?_; intro v' w3 hown' hg3 hnil3
       have hv3 : w3.heap[Bs]? = some (.cells #[v] 32 (0, 0)) := (hg3.block Bs (by simp; omega) (ne_of hv2 (fun cur e => by cases e))).trans ((Below.heap_alloc _ _ Bs hBlt).trans hv2)
       obtain ⟨hc3, hf3⟩ := cell_of_box hv3
       obtain ⟨g', cap', cur', rfl, hbase', hgb', hr1, hr2, hr3, hr4⟩ : ∃ g' cap' cur', v' = .slice (some ⟨g', 0, none⟩) (ss.length + 1) cap' ∧ w0.heap.size ≤ g' ∧ w3.heap[g']? = some (.cells cur' 3 (0, 0)) ∧ ss.length + 1 ≤ cap' ∧ cap' ≤ maxLen ∧ cur'.size = cap' * 1 ∧ cur'.toList.take ((ss.length + 1) * 1) = ss.map (Value.int .i64) ++ [(Value.int .i64 x)] := by
         rcases hown'.2 with ⟨_, h0⟩ | h'
         · exact absurd h0 (by omega)
         · exact h'
       simp only [Act.put, List.setIfInBounds_toArray, List.set_cons_succ, List.set_cons_zero])
    | (rw [Oper.semAt_eq _ _ _ (fun c h => by cases h)]; go_simp; try go_bits))
  have hg3' : (W2.alloc (.cells #[(Value.int .i64 x)] 3)).grownBy w3 v.ownBlock := hg3
  have hL3 : w3.heap[l]? = some (.loop { apRec fn sv Bs D .ready none with state := .busy }) := (hg3'.block l (by simp; omega) (ne_of hL2 (fun cur e => by cases e))).trans ((Below.heap_alloc _ _ l hl2).trans hL2)
  have hK3 : w3.heap[D]? = some (.deferred (some [])) := (hg3'.block D (by simp; omega) (ne_of hK2 (fun cur e => by cases e))).trans ((Below.heap_alloc _ _ D hDlt).trans hK2)
  obtain ⟨w4, hw4⟩ : ∃ w4, w3.setCell ⟨Bs, 0, none⟩ (.slice (some ⟨g', 0, none⟩) (ss.length + 1) cap') = w4 := ⟨_, rfl⟩
  rw [hw4]
  have hg4 : w3.grownBy w4 (some Bs) := by rw [← hw4]; exact grownBy_setCell0 _ _ _
  have hv4 : w4.heap[Bs]? = some (.cells #[.slice (some ⟨g', 0, none⟩) (ss.length + 1) cap'] 32 (0, 0)) := by rw [← hw4]; exact heap_setCell_box _ hv3
  have hL4 : w4.heap[l]? = some (.loop { apRec fn sv Bs D .ready none with state := .busy }) := (hg4.block l (Array.getElem?_eq_some_iff.1 hL3).1 (fun e => hBl (by cases e; rfl))).trans hL3
  have hK4 : w4.heap[D]? = some (.deferred (some [])) := (hg4.block D (Array.getElem?_eq_some_iff.1 hK3).1 (fun e => hDB (by cases e; rfl))).trans hK3
  have hrow4 := hown'.kept hg4 (ownsRow_ne hown' hv3 (fun cur e => by cases e))
  have hl4 : l < w4.heap.size := (Array.getElem?_eq_some_iff.1 hL4).1
  have hb3 : Below w0.heap.size w0 w3 := (hb2.alloc hb2.size _).grown hg3' (by have := hb2.size; simp; omega) (fun k e => (hrow2.lt k e).1)
  have hb4 : Below w0.heap.size w0 w4 := hb3.grown hg4 hb3.size (fun k e => by cases e; exact h0B)
  have hk4 : KeepsWalks W w4 := ((hk2.trans (KeepsWalks.alloc _ _)).trans (KeepsWalks.of_grownBy hg3' (ownsRow_not_walk (hrow2.alloc _)))).trans (by rw [← hw4]; exact KeepsWalks.setCell _ _ _)
  clear hw4
  refine ⟨_, _, run_endRound none hL4, rfl, ⟨⟨_, (World.putObj_heap_other hBl).trans hv4, ?_, by simp⟩, World.putObj_heap_same hl4, (World.putObj_heap_other hDl).trans hK4, hb4.grown (grownBy_putObj _ _ _) hb4.size (fun k e => by cases e; exact h0l)⟩, hk4.trans (KeepsWalks.putObj _ hL4 rfl)⟩
  have := hrow4.kept (grownBy_putObj w4 l (.loop { { apRec fn sv Bs D .ready none with state := .busy } with state := if (none : Option Code).isNone then .ready else .done, pending := none })) (ownsRow_ne hrow4 hL4 (fun cur e => by cases e))
  simpa using this


set_option maxRecDepth 100000 in
set_option maxHeartbeats 2000000 in
theorem appendSeq_in (F : Fence) (n : Nat) (h11 : F.fn 165) (hro : F.round = none) (hn : 2 ≤ n) (g : Nat) (lb : Array Value) (hFg : F.fn g) (eg : ∀ args w, (callFunc g args).run Tryz.prog w = .ok (.enter g args) w)
    (S : List Int → Prop) (N : Nat) (hN : N ≤ maxLen) (hNb : N * 8 ≤ 140737488355328) (w : World) (hseq : SeqOver F (n - 1) g lb S N w) :
    CallsIn F n Tryz.prog 165 #[.slice none 0 0, .func (.func g) #[] lb] w fun e w' => ∃ (v : Value) (ss : List Int), e = .returned v ∧ S ss ∧ w'.ownsRow w.heap.size 3 1 v ss.length (ss.map (Value.int .i64)) ∧ (v = .slice none 0 0 ↔ ss = []) ∧ Below w.heap.size w w' := by
  have h1 : 1 ≤ n := by omega
  refine callsIn_of_wp_marks Tryz.func165 rfl h11 ?_ hro
  simp only [Tryz.ntmps165, List.size_toArray, List.length_cons, List.length_nil, Nat.reduceAdd, Nat.reduceSub, Array.replicate_succ, Array.replicate_zero, List.push_toArray, List.append_toArray, List.nil_append, List.cons_append]
  gi_wp2
  refine wpIn_rangeFunc ?_
  intro fn hfn
  rw [hro]
  obtain ⟨W0, hW0⟩ : ∃ W0, w.alloc (.cells #[.slice none 0 0] 32) = W0 := ⟨_, rfl⟩
  have hs0 : W0.heap.size = w.heap.size + 1 := by rw [← hW0]; simp
  have hv0 : W0.heap[w.heap.size]? = some (.cells #[.slice none 0 0] 32 (0, 0)) := by rw [← hW0]; exact World.alloc_heap_new w _
  have hb0 : Below w.heap.size w W0 := by rw [← hW0]; exact (Below.refl _ w).alloc (Nat.le_refl _) _
  rw [hW0]
  obtain ⟨W1, hW1⟩ : ∃ W1, (W0.alloc (.deferred (some []))).alloc (.loop (apRec fn (.func (.func g) #[] lb) w.heap.size W0.heap.size .ready none)) = W1 := ⟨_, rfl⟩
  have hold : ∀ k, k < W0.heap.size → W1.heap[k]? = W0.heap[k]? := fun k hk => by
    rw [← hW1]; exact (Below.heap_alloc _ _ k (by simp; omega)).trans (Below.heap_alloc _ _ k hk)
  have hb1 : Below w.heap.size w W1 := by rw [← hW1]; exact (hb0.alloc hb0.size _).alloc (by have := hb0.size; simp; omega) _
  have hs1 : W1.heap.size = W0.heap.size + 2 := by rw [← hW1]; simp
  have hM : ApAt w fn (.func (.func g) #[] lb) w.heap.size (W0.heap.size + 1) W0.heap.size [] W1 :=
    ⟨⟨_, (hold w.heap.size (by omega)).trans hv0, ⟨rfl, .inl ⟨rfl, rfl⟩⟩, by simp⟩,
     by rw [← hW1]; have := World.alloc_heap_new (W0.alloc (.deferred (some []))) (.loop (apRec fn (.func (.func g) #[] lb) w.heap.size W0.heap.size .ready none)); rwa [World.size_alloc] at this,
     by rw [← hW1]; exact (Below.heap_alloc _ _ _ (by simp)).trans (World.alloc_heap_new W0 _), hb1⟩
  refine ⟨W0.heap.size + 1, [{ target := .collected W0.heap.size, args := #[] }], W1, { target := .fn (.func g) lb, args := #[.func (.yield (W0.heap.size + 1)) #[] #[]] }, W1, g,
    #[.func (.yield (W0.heap.size + 1)) #[] #[]] ++ lb, W1, ?_, ?_, ?_, ?_, fun _ => h1, ?_⟩
  · rw [← hW1]; exact run_enterLoop_outer _ _ _ _ _
  · simp [resolve, go_sem]
  · intro f' hf'; simp [Target.leads] at hf'; subst hf'; exact hFg
  · simp [invoke, go_sem, eg]
  · refine (hseq (W0.heap.size + 1) (ApAt w fn (.func (.func g) #[] lb) w.heap.size (W0.heap.size + 1) W0.heap.size) W1 hb1 (fun _ _ h => h.below)
      (fun pre x W hJ hl => apYield F (n - 1 - 1) w fn hfn _ w.heap.size (W0.heap.size + 1) W0.heap.size (by omega) (by omega) (by omega) (Nat.le_refl _) (by omega) N hN hNb pre x W hJ hl) hM).mono ?_
    rintro e W2 ⟨⟨v0, rfl⟩, ss, hS, h2⟩
    obtain ⟨v, hv, hrow, hnil⟩ := h2.box
    have hend := run_endLoop (P := Tryz.prog) h2.L (by simp [apRec])
    obtain ⟨W3, hW3⟩ : ∃ W3, W2.putObj (W0.heap.size + 1) (.loop { apRec fn (.func (.func g) #[] lb) w.heap.size W0.heap.size .ready none with state := .exhausted }) = W3 := ⟨_, rfl⟩
    rw [hW3] at hend
    have hg3 : W2.grownBy W3 (some (W0.heap.size + 1)) := by rw [← hW3]; exact grownBy_putObj _ _ _
    have hv3 : W3.heap[w.heap.size]? = some (.cells #[v] 32 (0, 0)) := by rw [← hW3]; exact (World.putObj_heap_other (by omega)).trans hv
    have hK3 : W3.heap[W0.heap.size]? = some (.deferred (some [])) := by rw [← hW3]; exact (World.putObj_heap_other (by omega)).trans h2.K
    have hrow3 := hrow.kept hg3 (ownsRow_ne hrow h2.L (fun cur e => by cases e))
    have hb3 : Below w.heap.size w W3 := h2.below.grown hg3 h2.below.size (fun k e => by cases e; omega)
    obtain ⟨hc3, hf3⟩ := cell_of_box hv3
    clear hW3
    refine ⟨none, W3, hend, ?_⟩
    gi_wp2
    rw [← hs0]
    refine ⟨by simp, .inl ⟨_, _, rfl, run_takeDeferred hK3, ?_⟩⟩
    exact ⟨_, results_tmp rfl _ _ _, v, ss, rfl, hS, hrow3.kept (grownBy_putObj _ _ _) (ownsRow_ne hrow3 hK3 (fun cur e => by cases e)), hnil, hb3.grown (grownBy_putObj _ _ _) hb3.size (fun k e => by cases e; omega)⟩

end Go.Proofs.YtgndjjdeopfdkaaGreat

/- LB -/
namespace Go.Proofs.YtgndjjdeopfdkaaGreat
open Go.RowKit Go.Maps Go.Shelf
attribute [local go_sem] Oper.semAt_some
def upto {α : Type} (f : Nat → α) (k : Nat) : List α := (List.range k).map f
theorem upto_succ {α : Type} (f : Nat → α) (k : Nat) : upto f (k + 1) = upto f k ++ [f k] := by simp [upto, List.range_succ]
theorem upto_length {α : Type} (f : Nat → α) (k : Nat) : (upto f k).length = k := by simp [upto]
theorem upto_all (zs : List Int) : upto (fun j => zs[j]?.getD 0) zs.length = zs := by
  apply List.ext_getElem
  · simp [upto]
  · intro i h1 h2
    simp [upto, h2]

set_option maxRecDepth 100000 in
set_option maxHeartbeats 2000000 in
theorem values1_in (F : Fence) (n : Nat) (h7 : F.fn 162) (hro : F.round = none) (hn : 1 ≤ n) (l Bs n₀ b off len cap : Nat) (zs : List Int) (hreach : len * 8 ≤ 140737488351232) (hb : b < n₀) (J Jx : List Int → World → Prop)
    (hY : ∀ pre x W, J pre W → pre.length < len → YieldAt F (n - 1) Tryz.prog l #[.int .i64 x] W fun e W' =>
      (e = .returned (.bool true) ∧ J (pre ++ [x]) W' ∧ Below n₀ W W') ∨ (e = .returned (.bool false) ∧ Jx (pre ++ [x]) W'))
    (W : World) (hBs : W.cell? ⟨Bs, 0, none⟩ = some (.slice (some ⟨b, off, none⟩) len cap)) (hc : ∀ j, j < len → W.cell? ⟨b, off + j, none⟩ = some (.int .i64 (zs[j]?.getD 0))) (h0 : J [] W) :
    CallsIn F n Tryz.prog 162 #[.func (.yield l) #[] #[], .pointer (some ⟨Bs, 0, none⟩)] W fun e W' => (∃ v, e = .returned v) ∧
      ((∃ ys, ys = upto (fun j => zs[j]?.getD 0) len ∧ J ys W') ∨ (∃ pre, (∃ k, k ≤ len ∧ pre = upto (fun j => zs[j]?.getD 0) k) ∧ Jx pre W')) := by
  refine callsIn_of_wp Tryz.func162 rfl h7 ?_ hro
  simp only [Tryz.ntmps162, List.size_toArray, List.length_cons, List.length_nil, Nat.reduceAdd, Nat.reduceSub, Array.replicate_succ, Array.replicate_zero, List.push_toArray, List.append_toArray, List.nil_append, List.cons_append]
  gi_wp2
  gi_loopw [7] (fun i wr => ∃ k : Nat, k ≤ len ∧ i = .int .i64 k ∧ J (upto (fun j => zs[j]?.getD 0) k) wr ∧ Below n₀ W wr)
    (fun i _ => len - (intOf i).toNat)
  case atStart => exact ⟨0, Nat.zero_le _, rfl, h0, Below.refl _ _⟩
  case round =>
    obtain ⟨k, hk, rfl, hJs, hnx⟩ := hrel
    have hcx : k < len → wr.cell? ⟨b, off + k, none⟩ = some (.int .i64 (zs[k]?.getD 0)) := fun h => (hnx.cell (p := ⟨b, off + k, none⟩) hb).trans (hc k h)
    by_cases hlt : k < len
    · obtain ⟨fn, tmps, assign, body, hy, hR⟩ := hY _ (zs[k]?.getD 0) wr hJs (by rw [upto_length]; exact hlt)
      have hcx' := hcx hlt
      gi_wp2
      refine hR.mono ?_
      rintro e W3 (⟨rfl, hJ3, hk3⟩ | ⟨rfl, hJx3⟩)
      · -- THE ROUND GOES ON
        gi_wp2
        go_roundw
        case rel => exact ⟨k + 1, by omega, by simp, by rw [upto_succ]; exact hJ3, hnx.trans hk3⟩
        case measure => simp [intOf]; omega
      · gi_wp2
        refine bodyPost_ret (results_none rfl _ _ _) rfl ?_
        exact ⟨⟨_, rfl⟩, .inr ⟨_, ⟨k + 1, by omega, (upto_succ _ _).symm⟩, hJx3⟩⟩
    · obtain rfl : k = len := by omega
      gi_wp2
      go_end0
      exact ⟨⟨_, rfl⟩, .inl ⟨_, rfl, hJs⟩⟩

set_option maxRecDepth 100000 in
set_option maxHeartbeats 1000000 in
theorem values1_nil_in (F : Fence) (n : Nat) (h7 : F.fn 162) (hro : F.round = none) (l Bs : Nat) (J : List Int → World → Prop) (W : World) (base : Option Addr) (cap : Nat) (hBs : W.cell? ⟨Bs, 0, none⟩ = some (.slice base 0 cap)) (h0 : J [] W) :
    CallsIn F n Tryz.prog 162 #[.func (.yield l) #[] #[], .pointer (some ⟨Bs, 0, none⟩)] W fun e W' => (∃ v, e = .returned v) ∧ J [] W' := by
  refine callsIn_of_wp Tryz.func162 rfl h7 ?_ hro
  simp only [Tryz.ntmps162, List.size_toArray, List.length_cons, List.length_nil, Nat.reduceAdd, Nat.reduceSub, Array.replicate_succ, Array.replicate_zero, List.push_toArray, List.append_toArray, List.nil_append, List.cons_append]
  gi_wp2
  gi_loopw [7] (fun i wr => i = .int .i64 0 ∧ J [] wr) (fun _ _ => 0)
  case atStart => exact ⟨rfl, h0⟩
  case round =>
    obtain ⟨rfl, hJs⟩ := hrel
    gi_wp2
    go_end0
    exact ⟨⟨_, rfl⟩, hJs⟩
end Go.Proofs.YtgndjjdeopfdkaaGreat

/- LC -/
namespace Go.Proofs.YtgndjjdeopfdkaaGreat
open Go.RowKit Go.Maps Go.Shelf Go.SX
theorem below_two {B : Nat} {w a b : World} (h1 : Below B w a) (h2 : Below B w b) (hs : a.heap.size ≤ b.heap.size) : Below B a b :=
  ⟨h2.os.trans h1.os.symm, h2.tape.trans h1.tape.symm, h2.output.trans h1.output.symm, hs, fun k hk => (h2.block k hk).trans (h1.block k hk).symm⟩
/-- a slice's numbers, where they lie in one block -/
def IntsIn (w : World) (base : Option Addr) (zs : List Int) : Prop :=
  zs = [] ∨ ∃ b off, base = some ⟨b, off, none⟩ ∧ b < w.heap.size ∧ ∀ j, j < zs.length → w.cell? ⟨b, off + j, none⟩ = some (.int .i64 (zs[j]?.getD 0))
theorem IntsIn.below {w w' : World} {base : Option Addr} {zs : List Int} (h : IntsIn w base zs) (hb : Below w.heap.size w w') : IntsIn w' base zs := by
  rcases h with h | ⟨b, off, h1, h2, h3⟩
  · exact .inl h
  · exact .inr ⟨b, off, h1, Nat.lt_of_lt_of_le h2 hb.size, fun j hj => (hb.cell (p := ⟨b, off + j, none⟩) h2).trans (h3 j hj)⟩
theorem values_over (F : Fence) (n : Nat) (h7 : F.fn 162) (hro : F.round = none) (hn : 1 ≤ n) (Bs : Nat) (base : Option Addr) (cap : Nat) (zs : List Int) (hreach : zs.length * 8 ≤ 140737488351232) (w : World) (hBs : Bs < w.heap.size)
    (hc : w.cell? ⟨Bs, 0, none⟩ = some (.slice base zs.length cap)) (hI : IntsIn w base zs) :
    SeqOver F n 162 #[.pointer (some ⟨Bs, 0, none⟩)] (fun ys => ys = zs) zs.length w := fun l J W hW hJB hY h0 => by
  have hc' := (hW.cell (p := ⟨Bs, 0, none⟩) hBs).trans hc
  rcases hI with rfl | ⟨b, off, rfl, hb, hcs⟩
  · exact (values1_nil_in F n h7 hro l Bs J W base cap hc' h0).mono fun e W' ⟨he, hj⟩ => ⟨he, _, rfl, hj⟩
  · refine (values1_in F n h7 hro hn l Bs w.heap.size b off zs.length cap zs hreach hb J (fun _ _ => False) (fun pre x W1 hj hl => ?_) W hc' (fun j hj => (hW.cell (p := ⟨b, off + j, none⟩) hb).trans (hcs j hj)) h0).mono ?_
    · obtain ⟨fn, tmps, assign, body, hy, hR⟩ := hY pre x W1 hj hl
      exact ⟨fn, tmps, assign, body, hy, hR.mono fun e w' ⟨h1, h2, h3⟩ => .inl ⟨h1, h2, below_two (hJB _ _ hj) (hJB _ _ h2) h3.size⟩⟩
    · rintro e W' ⟨he, ⟨ys, rfl, hj⟩ | ⟨_, _, hf⟩⟩
      · exact ⟨he, _, upto_all zs, hj⟩
      · exact hf.elim
theorem new_of_owns {w w' : World} {v : Value} {zs : List Int} (h : w'.ownsRow w.heap.size 3 1 v zs.length (zs.map (Value.int .i64))) : NewRows w w' v 1 3 (ints zs) := by
  have hone : ∀ r ∈ ints zs, r.length = 1 ∧ ∀ v ∈ r, v.oneCell' = true := fun r hr => by
    obtain ⟨x, _, rfl⟩ := List.mem_map.1 hr
    exact ⟨rfl, fun v hv => by rw [List.mem_singleton.1 hv]; rfl⟩
  rcases h.2 with ⟨rfl, h0⟩ | ⟨g, cap, cur, rfl, hb, hg, h1, h2, h3, h4⟩
  · have hz : zs = [] := List.eq_nil_of_length_eq_zero h0
    subst hz
    exact ⟨⟨none, 0⟩, rfl, fun _ => False, fun _ h => h.elim, hone, Nat.zero_le _, .inl ⟨rfl, rfl, fun _ h => h⟩⟩
  · refine ⟨⟨some ⟨g, 0, none⟩, cap⟩, by rw [ints_length], fun x => x = g, fun b hbb => by rw [hbb]; exact hb, hone, by rw [ints_length]; exact h1, .inr ⟨g, 0, cur, rfl, fun _ => Iff.rfl, hg, by show 0 + cap * 1 ≤ cur.size; omega, fun i r hr j v hv => ?_⟩⟩
    obtain ⟨x, hx, rfl⟩ : ∃ x, zs[i]? = some x ∧ r = [.int .i64 x] := by
      rw [ints, List.getElem?_map] at hr
      cases hx : zs[i]? with
      | none => rw [hx] at hr; cases hr
      | some x => rw [hx] at hr; exact ⟨x, rfl, by simpa using hr.symm⟩
    have hj : j = 0 := by
      rcases Nat.eq_zero_or_pos j with h | h
      · exact h
      · rw [List.getElem?_eq_none (by show 1 ≤ j; exact h)] at hv; cases hv
    subst hj
    have hv' : v = .int .i64 x := by simpa using hv.symm
    subst hv'
    have hi : i < zs.length := (List.getElem?_eq_some_iff.1 hx).1
    have := congrArg (fun l : List Value => l[i]?) h4
    simp only [Nat.mul_one, List.getElem?_take_of_lt hi, List.getElem?_map, hx, Option.map_some] at this
    rw [Nat.zero_add, Nat.mul_one, Nat.add_zero, ← Array.getElem?_toList]
    exact this
set_option maxHeartbeats 1000000 in
theorem collect_any (w : World) (Bs : Nat) (base : Option Addr) (cap : Nat) (zs : List Int) (hl : zs.length ≤ 1000000) (hBs : Bs < w.heap.size) (hc : w.cell? ⟨Bs, 0, none⟩ = some (.slice base zs.length cap)) (hI : IntsIn w base zs) :
    Calls Tryz.prog 160 #[.func (.func 162) #[] #[.pointer (some ⟨Bs, 0, none⟩)]] w fun e w' => ∃ v, e = .returned v ∧ NewRows w w' v 1 3 (ints zs) ∧ Ext w w' := by
  refine (callsIn_wide (n := 3)).1 ?_
  have hfA : Fence.wide.fn 165 := trivial
  have hseq := values_over Fence.wide 1 trivial rfl (Nat.le_refl _) Bs base cap zs (by omega) w hBs hc hI
  refine callsIn_of_wp Tryz.func160 rfl trivial ?_ rfl
  simp only [Tryz.ntmps160, List.size_toArray, List.length_cons, List.length_nil, Nat.reduceAdd, Nat.reduceSub, Array.replicate_succ, Array.replicate_zero, List.push_toArray, List.append_toArray, List.nil_append, List.cons_append]
  gi_wp2_with (gi_at_call 165; refine (appendSeq_in Fence.wide 2 trivial rfl (Nat.le_refl _) 162 _ trivial Tryz.call162 _ zs.length (by show zs.length ≤ 9223372036854775807; omega) (by omega) _ hseq).mono ?_; rintro e w' ⟨v, ss, rfl, hS, hrow, hnil, hb⟩)
  go_ret
  subst hS
  exact ⟨v, rfl, new_of_owns hrow, hb⟩
theorem values_any (w : World) (base : Option Addr) (len cap : Nat) : Calls Tryz.prog 152 #[.slice base len cap] w fun e w' => e = .returned (.func (.func 162) #[] #[.pointer (some ⟨w.heap.size, 0, none⟩)]) ∧ w' = w.alloc (.cells #[.slice base len cap] 32) := by
  refine (callsIn_wide (n := 1)).1 ?_
  refine callsIn_of_wp Tryz.func152 rfl trivial ?_ rfl
  simp only [Tryz.ntmps152, List.size_toArray, List.length_cons, List.length_nil, Nat.reduceAdd, Nat.reduceSub, Array.replicate_succ, Array.replicate_zero, List.push_toArray, List.append_toArray, List.nil_append, List.cons_append]
  gi_wp2
  go_ret
  exact ⟨rfl, rfl⟩
end Go.Proofs.YtgndjjdeopfdkaaGreat

/- LCa -/
namespace Go.Proofs.YtgndjjdeopfdkaaGreat
open Go.RowKit Go.SX
theorem cell_lt {w : World} {p : Addr} {v : Value} (h : w.cell? p = some v) : p.block < w.heap.size := by
  unfold World.cell? at h
  cases hb : w.heap[p.block]? with
  | none => simp [hb] at h
  | some o => exact (Array.getElem?_eq_some_iff.1 hb).1
theorem cell_frame {w : World} {a : Addr} {v : Value} (h : w.cell? a = some v) : a = ⟨a.block, a.off, none⟩ := by
  obtain ⟨b, o, f⟩ := a
  cases f with
  | none => rfl
  | some x => simp [World.cell?] at h; split at h <;> simp at h
theorem IntsV.ok.within {w : World} {u : IntsV} (h : u.ok w) : IntsIn w u.base u.xs := by
  rcases h.rows with h0 | ⟨a, ha, hc⟩
  · exact .inl (List.eq_nil_of_length_eq_zero (by have := congrArg List.length h0; rwa [ints_length] at this))
  · rcases Nat.eq_zero_or_pos u.xs.length with h1 | h1
    · exact .inl (List.eq_nil_of_length_eq_zero h1)
    · have hcell : ∀ j, j < u.xs.length → w.cell? (a.add j) = some (.int .i64 (u.xs[j]?.getD 0)) := fun j hj => by
        have := hc j [.int .i64 u.xs[j]] (ints_get hj) 0 _ rfl
        rw [Nat.mul_one, Nat.add_zero] at this
        rw [this, List.getElem?_eq_getElem hj]; rfl
      have h2 := hcell 0 h1
      have e0 : a.add 0 = a := by simp [Addr.add]
      rw [e0] at h2
      have ea := cell_frame h2
      have e1 : ∀ j, a.add j = ⟨a.block, a.off + j, none⟩ := fun j => by
        rw [ea]; simp [Addr.add]
      exact .inr ⟨a.block, a.off, ha.trans (congrArg some ea), cell_lt h2, fun j hj => by rw [← e1]; exact hcell j hj⟩
theorem values_call {cx : Cx} {H : Heap} {S : Asn} {nx : Nat} {K : SV → Heap → Asn → Nat → Prop} (base : Option Addr) (len cap : Nat) (hP : cx.P = Tryz.prog)
    (h : ∀ Bs : Nat, K (.c (.func (.func 162) #[] #[.pointer (some ⟨Bs, 0, none⟩)])) H (S.and ((rowsA (some ⟨Bs, 0, none⟩) 1 [[.slice base len cap]]).past cx.B.w0.heap.size)) nx) : callK cx 152 [.c (.slice base len cap)] H S nx K := by
  obtain ⟨P, B, n, tb⟩ := cx
  simp only at hP
  subst hP
  refine call_past Tryz.call152 (fun Bs : Nat => .func (.func 162) #[] #[.pointer (some ⟨Bs, 0, none⟩)]) (fun Bs => rowsA (some ⟨Bs, 0, none⟩) 1 [[.slice base len cap]]) (fun _ => True) (fun ρ w' hw => (values_any w' base len cap).mono ?_) (fun Bs _ => h Bs)
  rintro e w2 ⟨rfl, rfl⟩
  refine ⟨w'.heap.size, trivial, rfl, (Below.refl _ w').alloc (Nat.le_refl _) _, fun r hr => ?_, .inr ⟨w'.heap.size, 0, rfl, ⟨Nat.le_refl _, by rw [World.size_alloc]; omega⟩, fun i r hr j v hv => ?_⟩⟩
  · rw [List.mem_singleton.1 hr]
    exact ⟨rfl, fun v hv => by rw [List.mem_singleton.1 hv]; rfl⟩
  · match i, j with
    | 0, 0 =>
      simp at hr
      subst hr
      simp at hv
      subst hv
      exact cell_one_new _ _ _ 0 _ rfl
    | i + 1, _ => simp at hr
    | 0, j + 1 =>
      simp at hr
      subst hr
      simp at hv
end Go.Proofs.YtgndjjdeopfdkaaGreat

/- LJ -/
namespace Go.Proofs.YtgndjjdeopfdkaaGreat
open Go.RowKit Go.SX
theorem ro_cellJ {a : Addr} {S : Asn} {K : SV → Prop} {v : Value} (hx : ∀ R w, S.holds R w → w.cell? a = some v) (h : K (.c v)) : roK a S K := by rw [roK_def]; exact ⟨v, hx, h⟩
/-- rows of numbers, however many -/
structure ShapesV.okB (w : World) (v : ShapesV) : Prop where
  rows : RowsI w v.base 1 (shRows v.l)
  each : ∀ s ∈ v.l, s.ok w
  few : v.l.length ≤ 1000000
theorem ShapesV.okB.later {w w' : World} {R : Nat → Prop} {v : ShapesV} (h : v.okB w) (hb : (baseA w).holds R w') : v.okB w' := ⟨rows_base hb h.rows, fun s hs => (h.each s hs).later hb, h.few⟩
theorem offLen_any (w : World) (u : IntsV) (hu : u.ok w) (p : Addr) (fb : Option Addr) (fl fc : Nat) (hc : w.cell? p = some (.slice fb fl fc)) : Calls Tryz.prog 128 #[u.val, .pointer (some p)] w fun e w' => e = .returned (.bool (decide (u.xs.length ≠ fl))) ∧ Ext w w' := by
  refine calls_of tab tabOk Tryz.func128 rfl rfl rfl [] (fun _ => ⟨none, 0⟩) [.c u.val, .c (.pointer (some p))] [] (baseA w) 0 rfl rfl (by show 2 ≤ _; decide) (abs_base w) ?_
  (repeat' ((conv => whnf) <;> first | (show roK _ _ _; (refine ro_cellJ (fun R w' h => by rw [cell_same (h _ (cell_block hc)).2]; exact hc) ?_)) | (show @cmpK _ _ _; ((refine cmp_both ?_ ?_ <;> intro _))) | (show Wp _ _ _ _ _ _ _; refine Wp.go tabOk rfl ?_) | (show @cmpK _ _ _; (first | refine cmpY ?_ | refine cmpN ?_ | (refine cmp_both ?_ ?_ <;> intro _))) | (show wrapK _ _ _; refine wrapA ?_) | (show leK _ _ _; refine leA ?_) | (show roomK _ _ _; refine roomA ?_) | (show ltK _ _ _; refine ltA ?_) | (show _ ∧ _; refine ⟨?_, ?_⟩) | (show keepK _ _ _ _ _; refine keepA ?_) | refine own_keep ?_ | refine ap_old ?_))
  all_goals (conv => whnf)
  all_goals first | exact ends_bool (fun _ _ h => h) rfl (decide_eq_true (by omega)) | exact ends_bool (fun _ _ h => h) rfl (decide_eq_false (by omega))
def offs (l : List IntsV) (fl : Nat) (i : Nat) : Prop := ∀ k, k < i → ∀ h : k < l.length, l[k].xs.length = fl
set_option maxHeartbeats 1000000 in
theorem indexOff_any (w : World) (rv : ShapesV) (hr : rv.okB w) (p : Addr) (fb : Option Addr) (fl fc : Nat) (hc : w.cell? p = some (.slice fb fl fc)) : Calls Tryz.prog 154 #[rv.val, .func (.func 128) #[] #[.pointer (some p)]] w fun e w' => (∃ k : Int, e = .returned (.int .i64 k) ∧ (0 ≤ k ↔ rv.l.any (fun u => decide (u.xs.length ≠ fl)) = true)) ∧ Ext w w' := by
  have hf := hr.few
  refine calls_of tab tabOk Tryz.func154 rfl rfl rfl [] (fun _ => ⟨none, 0⟩) [.c rv.val, .c (.func (.func 128) #[] #[.pointer (some p)])] [] (baseA w) 0 rfl rfl (by show 2 ≤ _; decide) (abs_base w) ?_
  (repeat' ((conv => whnf) <;> first | (show Wp _ _ _ _ _ _ _; refine Wp.go tabOk rfl ?_) | (show @cmpK _ _ _; (first | refine cmpY ?_ | refine cmpN ?_ | (refine cmp_both ?_ ?_ <;> intro _))) | (show wrapK _ _ _; refine wrapA ?_) | (show leK _ _ _; refine leA ?_) | (show roomK _ _ _; refine roomA ?_) | (show ltK _ _ _; refine ltA ?_) | (show _ ∧ _; refine ⟨?_, ?_⟩) | (show keepK _ _ _ _ _; refine keepA ?_) | refine own_keep ?_ | refine ap_old ?_))
  refine Wp.loop (σ := Nat) 0 (fun i => [(0, .c rv.val), (1, .c (.func (.func 128) #[] #[.pointer (some p)])), (7, .c (.int .i64 rv.l.length)), (8, .c (.int .i64 i))]) (fun _ => []) (fun _ => baseA w)
    (fun i => offs rv.l fl i) (fun i => rv.l.length - i) 0 [] (by decide) (fun s => ⟨rfl, rfl⟩) (fun k hk => absurd hk (Nat.not_lt_zero k)) ⟨rfl, ⟨rfl, rfl, rfl, rfl, trivial⟩, trivial, fun _ _ h => h⟩ ?_
  intro i hi
  by_cases hlt : i < rv.l.length
  · obtain ⟨ra, hra⟩ : ∃ a, rv.base = some a := base_some (j := i) hr.rows (by rw [shRows_length]; exact hlt)
    have hou := hr.each rv.l[i] (List.getElem_mem hlt)
    by_cases hne : rv.l[i].xs.length = fl
    · (repeat' ((conv => whnf) <;> first | (show idxK _ _ _ _ _; refine idx_of ra i hra rfl hlt ?_) | (show roK _ _ _; (refine ro_row0 (fun R w' h => by rw [← hra]; exact rows_base h hr.rows) _ _ (shRows_get hlt) rfl ?_)) | (show callK _ 128 _ _ _ _ _; (refine call_pure (f := 128) Tryz.call128 (.bool false) (fun ρ w' hw => by have := offLen_any w' rv.l[i] (holds_of_abs hw fun R h => hou.later h) p fb fl fc (holds_of_abs hw fun R h => by rw [cell_same (h _ (cell_block hc)).2]; exact hc); rw [decide_eq_false (by omega)] at this; exact this) ?_)) | (show Wp _ _ _ _ _ _ _; refine Wp.go tabOk rfl ?_) | (show @cmpK _ _ _; (first | refine cmpY ?_ | refine cmpN ?_ | (refine cmp_both ?_ ?_ <;> intro _))) | (show wrapK _ _ _; refine wrapA ?_) | (show leK _ _ _; refine leA ?_) | (show roomK _ _ _; refine roomA ?_) | (show ltK _ _ _; refine ltA ?_) | (show _ ∧ _; refine ⟨?_, ?_⟩) | (show keepK _ _ _ _ _; refine keepA ?_) | refine own_keep ?_ | refine ap_old ?_))
      all_goals (conv => whnf)
      all_goals refine ⟨i + 1, [], fun k hk h => ?_, by omega, rfl, ⟨rfl, rfl, rfl, rfl, trivial⟩, trivial, fun _ _ h => h⟩
      rcases Nat.lt_or_ge k i with h1 | h1
      · exact hi k h1 h
      · obtain rfl : k = i := by omega
        exact hne
    · (repeat' ((conv => whnf) <;> first | (show idxK _ _ _ _ _; refine idx_of ra i hra rfl hlt ?_) | (show roK _ _ _; (refine ro_row0 (fun R w' h => by rw [← hra]; exact rows_base h hr.rows) _ _ (shRows_get hlt) rfl ?_)) | (show callK _ 128 _ _ _ _ _; (refine call_pure (f := 128) Tryz.call128 (.bool true) (fun ρ w' hw => by have := offLen_any w' rv.l[i] (holds_of_abs hw fun R h => hou.later h) p fb fl fc (holds_of_abs hw fun R h => by rw [cell_same (h _ (cell_block hc)).2]; exact hc); rw [decide_eq_true (by omega)] at this; exact this) ?_)) | (show Wp _ _ _ _ _ _ _; refine Wp.go tabOk rfl ?_) | (show @cmpK _ _ _; (first | refine cmpY ?_ | refine cmpN ?_ | (refine cmp_both ?_ ?_ <;> intro _))) | (show wrapK _ _ _; refine wrapA ?_) | (show leK _ _ _; refine leA ?_) | (show roomK _ _ _; refine roomA ?_) | (show ltK _ _ _; refine ltA ?_) | (show _ ∧ _; refine ⟨?_, ?_⟩) | (show keepK _ _ _ _ _; refine keepA ?_) | refine own_keep ?_ | refine ap_old ?_))
      all_goals (conv => whnf)
      refine fin_of fun ρ w' hw => ⟨⟨i, rfl, fun _ => List.any_eq_true.2 ⟨rv.l[i], List.getElem_mem hlt, by simpa using hne⟩, fun _ => by omega⟩, ext_of_abs hw (fun _ _ h => h)⟩
  · (repeat' ((conv => whnf) <;> first | (show Wp _ _ _ _ _ _ _; refine Wp.go tabOk rfl ?_) | (show @cmpK _ _ _; (first | refine cmpY ?_ | refine cmpN ?_ | (refine cmp_both ?_ ?_ <;> intro _))) | (show wrapK _ _ _; refine wrapA ?_) | (show leK _ _ _; refine leA ?_) | (show roomK _ _ _; refine roomA ?_) | (show ltK _ _ _; refine ltA ?_) | (show _ ∧ _; refine ⟨?_, ?_⟩) | (show keepK _ _ _ _ _; refine keepA ?_) | refine own_keep ?_ | refine ap_old ?_))
    all_goals (conv => whnf)
    refine fin_of fun ρ w' hw => ⟨⟨-1, rfl, fun h => absurd h (by decide), fun h => ?_⟩, ext_of_abs hw (fun _ _ h => h)⟩
    obtain ⟨u, hu, hx⟩ := List.any_eq_true.1 h
    obtain ⟨k, hk, rfl⟩ := List.mem_iff_getElem.1 hu
    exact absurd (hi k (by omega) hk) (by simpa using hx)
theorem containsOff_any (w : World) (rv : ShapesV) (hr : rv.okB w) (p : Addr) (fb : Option Addr) (fl fc : Nat) (hc : w.cell? p = some (.slice fb fl fc)) : Calls Tryz.prog 127 #[rv.val, .func (.func 128) #[] #[.pointer (some p)]] w fun e w' => e = .returned (.bool (rv.l.any fun u => decide (u.xs.length ≠ fl))) ∧ Ext w w' := by
  refine calls_of tab tabOk Tryz.func127 rfl rfl rfl [] (fun _ => ⟨none, 0⟩) [.c rv.val, .c (.func (.func 128) #[] #[.pointer (some p)])] [] (baseA w) 0 rfl rfl (by show 2 ≤ _; decide) (abs_base w) ?_
  (repeat' ((conv => whnf) <;> first | (show callK _ 154 _ _ _ _ _; refine call_some (f := 154) Tryz.call154 (fun k : Int => .int .i64 k) (fun k => 0 ≤ k ↔ rv.l.any (fun u => decide (u.xs.length ≠ fl)) = true) (fun ρ w' hw => ?_) (fun k hk => ?_)) | (show Wp _ _ _ _ _ _ _; refine Wp.go tabOk rfl ?_) | (show @cmpK _ _ _; (first | refine cmpY ?_ | refine cmpN ?_ | (refine cmp_both ?_ ?_ <;> intro _))) | (show wrapK _ _ _; refine wrapA ?_) | (show leK _ _ _; refine leA ?_) | (show roomK _ _ _; refine roomA ?_) | (show ltK _ _ _; refine ltA ?_) | (show _ ∧ _; refine ⟨?_, ?_⟩) | (show keepK _ _ _ _ _; refine keepA ?_) | refine own_keep ?_ | refine ap_old ?_))
  · refine (indexOff_any w' rv (holds_of_abs hw fun R h => hr.later h) p fb fl fc (holds_of_abs hw fun R h => by rw [cell_same (h _ (cell_block hc)).2]; exact hc)).mono ?_
    rintro e w2 ⟨⟨k, h1, h2⟩, h3⟩
    exact ⟨k, h2, h1, h3⟩
  all_goals (conv => whnf)
  all_goals rename_i h0
  · exact ends_bool (fun _ _ h => h) rfl (hk.1 h0)
  · exact ends_bool (fun _ _ h => h) rfl (Bool.eq_false_iff.2 fun h => h0 (hk.2 h))
end Go.Proofs.YtgndjjdeopfdkaaGreat

/- LK -/
namespace Go.Proofs.YtgndjjdeopfdkaaGreat
open Go.Shelf
def sort_ren : Go.Shelf.Ren := ⟨fun | 189 => 161 | 125 => 167 | 257 => 166 | 128 => 177 | 129 => 164 | 294 => 168 | 295 => 169 | 296 => 170 | 297 => 171 | 298 => 172 | 299 => 173 | 216 => 174 | 300 => 175 | 301 => 176 | 328 => 178 | 329 => 179 | 330 => 180 | 331 => 181 | 332 => 182 | 215 => 183 | 343 => 184 | n => n, fun | 28 => 32 | 3 => 3 | 46 => 148 | 0 => 0 | 51 => 203 | 53 => 59 | 4 => 4 | 183 => 197 | 182 => 196 | 131 => 162 | 5 => 5 | 9 => 9 | 218 => 204 | 222 => 208 | 228 => 210 | 229 => 211 | n => n, fun | n => n⟩
set_option maxRecDepth 20000 in
theorem sortLays : Go.Proofs.Lays.n189 Tryz.prog sort_ren := {
  mixed := by kernel_rfl
  f125 := Tryz.func167.trans (congrArg some (by kernel_rfl))
  f128 := Tryz.func177.trans (congrArg some (by kernel_rfl))
  f129 := Tryz.func164.trans (congrArg some (by kernel_rfl))
  f189 := Tryz.func161.trans (congrArg some (by kernel_rfl))
  f215 := Tryz.func183.trans (congrArg some (by kernel_rfl))
  f216 := Tryz.func174.trans (congrArg some (by kernel_rfl))
  f257 := Tryz.func166.trans (congrArg some (by kernel_rfl))
  f294 := Tryz.func168.trans (congrArg some (by kernel_rfl))
  f295 := Tryz.func169.trans (congrArg some (by kernel_rfl))
  f296 := Tryz.func170.trans (congrArg some (by kernel_rfl))
  f297 := Tryz.func171.trans (congrArg some (by kernel_rfl))
  f298 := Tryz.func172.trans (congrArg some (by kernel_rfl))
  f299 := Tryz.func173.trans (congrArg some (by kernel_rfl))
  f300 := Tryz.func175.trans (congrArg some (by kernel_rfl))
  f301 := Tryz.func176.trans (congrArg some (by kernel_rfl))
  f328 := Tryz.func178.trans (congrArg some (by kernel_rfl))
  f329 := Tryz.func179.trans (congrArg some (by kernel_rfl))
  f330 := Tryz.func180.trans (congrArg some (by kernel_rfl))
  f331 := Tryz.func181.trans (congrArg some (by kernel_rfl))
  f332 := Tryz.func182.trans (congrArg some (by kernel_rfl))
  f343 := Tryz.func184.trans (congrArg some (by kernel_rfl))
  t0 := Tryz.underlying0
  a0 := Tryz.isAgg0
  z0 := Tryz.sizeOf0
  v0 := Tryz.zeroValue0
  t3 := Tryz.underlying3
  a3 := Tryz.isAgg3
  z3 := Tryz.sizeOf3
  v3 := Tryz.zeroValue3
  t4 := Tryz.underlying4
  a4 := Tryz.isAgg4
  z4 := Tryz.sizeOf4
  v4 := Tryz.zeroValue4
  t5 := Tryz.underlying5
  a5 := Tryz.isAgg5
  z5 := Tryz.sizeOf5
  v5 := Tryz.zeroValue5
  t9 := Tryz.underlying9
  a9 := Tryz.isAgg9
  z9 := Tryz.sizeOf9
  v9 := Tryz.zeroValue9
  t28 := Tryz.underlying32
  a28 := Tryz.isAgg32
  z28 := Tryz.sizeOf32
  v28 := Tryz.zeroValue32
  t46 := Tryz.underlying148
  a46 := Tryz.isAgg148
  z46 := Tryz.sizeOf148
  v46 := Tryz.zeroValue148
  t51 := Tryz.underlying203
  a51 := Tryz.isAgg203
  z51 := Tryz.sizeOf203
  v51 := Tryz.zeroValue203
  t53 := Tryz.underlying59
  a53 := Tryz.isAgg59
  z53 := Tryz.sizeOf59
  v53 := Tryz.zeroValue59
  t131 := Tryz.underlying162
  a131 := Tryz.isAgg162
  z131 := Tryz.sizeOf162
  v131 := Tryz.zeroValue162
  t182 := Tryz.underlying196
  a182 := Tryz.isAgg196
  z182 := Tryz.sizeOf196
  v182 := Tryz.zeroValue196
  t183 := Tryz.underlying197
  a183 := Tryz.isAgg197
  z183 := Tryz.sizeOf197
  v183 := Tryz.zeroValue197
  t218 := Tryz.underlying204
  a218 := Tryz.isAgg204
  z218 := Tryz.sizeOf204
  v218 := Tryz.zeroValue204
  t222 := Tryz.underlying208
  a222 := Tryz.isAgg208
  z222 := Tryz.sizeOf208
  v222 := Tryz.zeroValue208
  t228 := Tryz.underlying210
  a228 := Tryz.isAgg210
  z228 := Tryz.sizeOf210
  v228 := Tryz.zeroValue210
  t229 := Tryz.underlying211
  a229 := Tryz.isAgg211
  z229 := Tryz.sizeOf211
  v229 := Tryz.zeroValue211 }
def comp_ren : Go.Shelf.Ren := ⟨fun | 20 => 153 | n => n, fun | 22 => 32 | 3 => 3 | 4 => 4 | 0 => 0 | n => n, fun | n => n⟩
set_option maxRecDepth 20000 in
theorem compLays : Go.Proofs.Lays2.n20 Tryz.prog comp_ren := {
  mixed := by kernel_rfl
  f20 := Tryz.func153.trans (congrArg some (by kernel_rfl))
  t0 := Tryz.underlying0
  a0 := Tryz.isAgg0
  z0 := Tryz.sizeOf0
  v0 := Tryz.zeroValue0
  t3 := Tryz.underlying3
  a3 := Tryz.isAgg3
  z3 := Tryz.sizeOf3
  v3 := Tryz.zeroValue3
  t4 := Tryz.underlying4
  a4 := Tryz.isAgg4
  z4 := Tryz.sizeOf4
  v4 := Tryz.zeroValue4
  t22 := Tryz.underlying32
  a22 := Tryz.isAgg32
  z22 := Tryz.sizeOf32
  v22 := Tryz.zeroValue32
  i3 := by kernel_rfl }
end Go.Proofs.YtgndjjdeopfdkaaGreat

/- LL -/
namespace Go.Proofs.YtgndjjdeopfdkaaGreat
open Go.RowKit Go.SX Go.Sort
theorem heap_put {w : World} {g off n : Nat} {os : Array Obj} {cur : Array Value} {e : TypeId} {fr : Nat × Nat} (d : Array Int) (hb : w.heap[g]? = some (.cells cur e fr)) :
    (grow (putRow (Value.int .i64) (Sort.ahead w n) g off d) os).heap[g]? = some (.cells (putCells (Value.int .i64) off d cur) e fr) := by
  have hg : g < w.heap.size := (Array.getElem?_eq_some_iff.1 hb).1
  rw [heap_grow_old _ _ (by simpa using hg)]
  simp [putRow, mapBlock, Sort.ahead, Array.getElem?_modify, hb, onCells]
theorem step_put {w : World} {g off n : Nat} {os : Array Obj} (d : Array Int) {F : Nat → Prop} (hF : ∀ x, F x ↔ x = g) : Step F w (grow (putRow (Value.int .i64) (Sort.ahead w n) g off d) os) := by
  refine ⟨rfl, rfl, rfl, by simp, fun k hk hne => ?_⟩
  rw [heap_grow_old _ _ (by simpa using hk)]
  have : g ≠ k := fun e => hne ((hF k).2 e.symm)
  simp [putRow, mapBlock, Sort.ahead, Array.getElem?_modify, this]
theorem get_put {off : Nat} {zs : List Int} {cur : Array Value} {i : Nat} (hi : i < zs.length) (hc : off + zs.length ≤ cur.size) : (putCells (Value.int .i64) off zs.toArray cur)[off + i]? = some (.int .i64 zs[i]) := by
  have h1 : off + i < cur.size := by omega
  simp [putCells, h1, hi]
/-- own rows and what the shelf's contracts ask of them -/
theorem holds_own {w : World} {b off : Nat} {c : Array Value} {T : TypeId} {xs : List Int} (hh : w.heap[b]? = some (.cells c T (0, 0))) (hc : ∀ i r, (ints xs)[i]? = some r → ∀ j v, r[j]? = some v → c[off + i * 1 + j]? = some v) : Holds (Value.int .i64) w b off xs.toArray := by
  intro j hj
  have hj' : j < xs.length := by simpa using hj
  have := hc j _ (ints_get hj') 0 _ rfl
  rw [Nat.mul_one, Nat.add_zero] at this
  constructor
  · simp only [World.cell?, hh]
    simp [this, hj']
  · simp [World.frozen?, hh]
theorem call_put {cx : Cx} {f : FuncId} {H : Heap} {S : Asn} {nx i m : Nat} {T : TypeId} {xs ys : List Int} {K : SV → Heap → Asn → Nat → Prop} (hf : ∀ ar w, (callFunc f ar).run cx.P w = .ok (.enter f ar) w) (hi : (i, Ent.rows (ints xs) 1 T) ∈ H) (hm : m = xs.length) (hy : ys.length = xs.length) (res : SX.Loc → Value) (u : SV) (hu : u.lt nx) (hres : ∀ ρ, u.rf ρ = res (ρ i))
    (h0 : ∀ cap w, xs = [] → Calls cx.P f #[.slice none 0 cap] w fun e w' => e = .returned (res ⟨none, cap⟩) ∧ w' = w)
    (hc : ∀ b off cap w, Holds (Value.int .i64) w b off xs.toArray → b < w.heap.size → xs.length ≤ cap → Calls cx.P f #[.slice (some ⟨b, off, none⟩) xs.length cap] w fun e w' => e = .returned (res ⟨some ⟨b, off, none⟩, cap⟩) ∧ ∃ n os, w' = grow (putRow (Value.int .i64) (Sort.ahead w n) b off ys.toArray) os)
    (h : K u (setH i (.rows (ints ys) 1 T) H) S nx) : callK cx f [.os i m] H S nx K := by
  rw [callK_def]
  refine ⟨hf, fun ρ w hw => ?_⟩
  subst hm
  have hA := hw
  obtain ⟨R, φ, hw⟩ := hw
  have hent := hw.ent _ hi
  obtain ⟨hr, hcap, hent⟩ := hent
  rw [ints_length] at hcap
  simp only at hcap
  have hargs : (SV.rfs ρ [.os i xs.length]).toArray = #[.slice (ρ i).base xs.length (ρ i).cap] := rfl
  rw [hargs]
  rcases hent with ⟨hb, hc0, hF⟩ | ⟨b, off, c, hb, hF, hh, hsz, hcell⟩
  · simp only at hb hc0
    have hx : xs = [] := List.eq_nil_of_length_eq_zero (by omega)
    have hy0 : ys = [] := List.eq_nil_of_length_eq_zero (by rw [hy, hx]; rfl)
    subst hx hy0
    rw [hb]
    refine (h0 (ρ i).cap w rfl).mono ?_
    rintro e w' ⟨rfl, rfl⟩
    refine ⟨u, ρ, _, S, nx, ?_, fun _ _ => rfl, Nat.le_refl _, hu, Abs.store hA hi (fun y hy => by simp [Ent.hass] at hy) fun F hF' => ⟨⟨rfl, rfl, rfl, Nat.le_refl _, fun _ _ _ => rfl⟩, hF'⟩, h⟩
    rw [hres, ← hb]
  · simp only at hb hF hsz
    rw [hb]
    have hH := holds_own hh hcell
    have hbl := (Array.getElem?_eq_some_iff.1 hh).1
    refine (hc b off (ρ i).cap w hH hbl hcap).mono ?_
    rintro e w' ⟨rfl, n, os, rfl⟩
    refine ⟨u, ρ, _, S, nx, by rw [hres, ← hb], fun _ _ => rfl, Nat.le_refl _, hu, Abs.store hA hi (fun y hy => by simp [Ent.hass] at hy) fun F hF' => ?_, h⟩
    obtain ⟨_, _, hF2⟩ := hF'
    rcases hF2 with ⟨g1, _, _⟩ | ⟨b', off', c', g1, g2, g3, g4, g5⟩
    · rw [hb] at g1; cases g1
    · rw [hb] at g1
      simp only [Option.some.injEq, Addr.mk.injEq, and_true] at g1
      obtain ⟨rfl, rfl⟩ := g1
      rw [hh] at g3
      obtain rfl : c = c' := by simpa using g3
      refine ⟨step_put _ g2, ints_row, by rw [ints_length, hy]; exact hcap, .inr ⟨b, off, _, hb, g2, heap_put _ hh, by simpa [putCells] using hsz, fun k r hk j v hj => ?_⟩⟩
      have hkl : k < ys.length := by
        have := (List.getElem?_eq_some_iff.1 hk).1
        rwa [ints_length] at this
      rw [ints_get hkl] at hk
      obtain rfl : [Value.int .i64 ys[k]] = r := by simpa using hk
      have hj0 : j = 0 := by
        rcases Nat.eq_zero_or_pos j with h | h
        · exact h
        · rw [List.getElem?_eq_none (by show 1 ≤ j; exact h)] at hj; cases hj
      subst hj0
      obtain rfl : Value.int .i64 ys[k] = v := by simpa using hj
      rw [Nat.mul_one, Nat.add_zero]
      exact get_put hkl (by have : off + (ρ i).cap * 1 ≤ c.size := hsz; omega)
end Go.Proofs.YtgndjjdeopfdkaaGreat

/- LM -/
namespace Go.Proofs.YtgndjjdeopfdkaaGreat
open Go.RowKit Go.SX Go.Sort
def placesL (l : List Int) (slots : Int) : Bool := decide ((∀ x ∈ l, 0 ≤ x ∧ x < slots) ∧ l.Nodup)
def srt (zs : List Int) : List Int := zs.mergeSort fun x y => decide (x ≤ y)
theorem srt_perm (zs : List Int) : (srt zs).Perm zs := List.mergeSort_perm _ _
theorem srt_length (zs : List Int) : (srt zs).length = zs.length := (srt_perm zs).length_eq
theorem srt_sorted (zs : List Int) : ∀ i j (h1 : i < (srt zs).length) (h2 : j < (srt zs).length), i < j → (srt zs)[i] ≤ (srt zs)[j] := by
  have h := List.pairwise_mergeSort (le := fun x y : Int => decide (x ≤ y)) (fun a b c h1 h2 => by simp at *; omega) (fun a b => by simp; omega) zs
  rw [List.pairwise_iff_getElem] at h
  intro i j h1 h2 hij
  exact of_decide_eq_true (h i j h1 h2 hij)
theorem compact_length (s : List Int) : (Lib.compact s).length = s.length ↔ ∀ j (h : j < s.length), j = 0 ∨ s[j] ≠ s[j - 1]'(by omega) := by
  have e : (Lib.compact s).length = ((List.range s.length).filter (Lib.keeps s.toArray)).length := by simp [Lib.compact, Lib.compactUpTo]
  rw [e]
  have e2 := List.length_filter_eq_length_iff (l := List.range s.length) (p := Lib.keeps s.toArray)
  rw [List.length_range] at e2
  rw [e2]
  simp only [List.mem_range, Lib.keeps, decide_eq_true_eq]
  constructor
  · intro h j hj
    rcases h j hj with h | h
    · exact .inl h
    · refine .inr ?_
      have h1 : j - 1 < s.length := by omega
      simpa [hj, h1] using h
  · intro h j hj
    rcases h j hj with h | h
    · exact .inl h
    · refine .inr ?_
      have h1 : j - 1 < s.length := by omega
      simpa [hj, h1] using h
theorem nodup_srt (zs : List Int) : (∀ j (h : j < (srt zs).length), j = 0 ∨ (srt zs)[j] ≠ (srt zs)[j - 1]'(by omega)) ↔ zs.Nodup := by
  rw [← (srt_perm zs).nodup_iff]
  constructor
  · intro h
    rw [List.Nodup, List.pairwise_iff_getElem]
    intro i j hi hj hij e
    have h1 := (h j hj).resolve_left (by omega)
    have h2 := srt_sorted zs (j - 1) j (by omega) hj (by omega)
    rcases Nat.lt_or_ge i (j - 1) with g | g
    · have := srt_sorted zs i (j - 1) hi (by omega) g
      omega
    · have : i = j - 1 := by omega
      subst this
      exact h1 e.symm
  · intro h j hj
    rw [List.Nodup, List.pairwise_iff_getElem] at h
    rcases Nat.eq_zero_or_pos j with g | g
    · exact .inl g
    · exact .inr fun e => h (j - 1) j (by omega) hj (by omega) e.symm
theorem places_empty (slots : Int) : placesL [] slots = true := by simp [placesL]
theorem places_plain {zs : List Int} (slots : Int) (hz : 0 < zs.length) : placesL zs slots = true ↔ 0 ≤ (srt zs).getD 0 0 ∧ (srt zs).getD (zs.length - 1) 0 < slots ∧ (Lib.compact (srt zs)).length = zs.length := by
  have hl := srt_length zs
  rw [show (Lib.compact (srt zs)).length = zs.length ↔ zs.Nodup from by rw [← srt_length zs, compact_length, nodup_srt]]
  rw [placesL, decide_eq_true_eq, ← and_assoc]
  refine and_congr_left fun _ => ?_
  have e0 : (srt zs).getD 0 0 = (srt zs)[0] := by simp [List.getD, show 0 < (srt zs).length by omega]
  have e1 : (srt zs).getD (zs.length - 1) 0 = (srt zs)[zs.length - 1] := by simp [List.getD, show zs.length - 1 < (srt zs).length by omega]
  rw [e0, e1]
  constructor
  · intro h
    exact ⟨(h _ ((srt_perm zs).mem_iff.1 (List.getElem_mem _))).1, (h _ ((srt_perm zs).mem_iff.1 (List.getElem_mem _))).2⟩
  · rintro ⟨h1, h2⟩ x hx
    obtain ⟨k, hk, rfl⟩ := List.mem_iff_getElem.1 ((srt_perm zs).mem_iff.2 hx)
    constructor
    · rcases Nat.eq_zero_or_pos k with g | g
      · subst g; exact h1
      · have := srt_sorted zs 0 k (by omega) hk g; omega
    · rcases Nat.lt_or_ge k (zs.length - 1) with g | g
      · have := srt_sorted zs k (zs.length - 1) hk (by omega) g; omega
      · have : k = zs.length - 1 := by omega
        subst this; exact h2
end Go.Proofs.YtgndjjdeopfdkaaGreat

/- LN -/
namespace Go.Proofs.YtgndjjdeopfdkaaGreat
open Go.RowKit Go.SX Go.Sort
/-- slices.Sort of one's own numbers -/
theorem call_sort {cx : Cx} (hP : cx.P = Tryz.prog) {H : Heap} {S : Asn} {nx i m : Nat} {T : TypeId} {xs : List Int} {K : SV → Heap → Asn → Nat → Prop} (hi : (i, Ent.rows (ints xs) 1 T) ∈ H) (hm : m = xs.length) (hl : xs.length ≤ 1000000)
    (h : K (.c (.tuple #[])) (setH i (.rows (ints (srt xs)) 1 T) H) S nx) : callK cx 161 [.os i m] H S nx K := by
  obtain ⟨P, B, n, tb⟩ := cx
  simp only at hP
  subst hP
  refine call_put Tryz.call161 hi hm (srt_length xs) (fun _ => .tuple #[]) (.c (.tuple #[])) (SV.lt_c _) (fun _ => rfl) (fun cap w hx => ?_) (fun b off cap w hH hb hc => ?_) h
  · exact Any.slices_Sort_int_none sortLays none cap w
  · exact Any.slices_Sort_int sortLays b off cap xs w hH hb (by omega)
/-- slices.Compact of one's own numbers -/
theorem call_compact {cx : Cx} (hP : cx.P = Tryz.prog) {H : Heap} {S : Asn} {nx i m : Nat} {T : TypeId} {xs : List Int} {K : SV → Heap → Asn → Nat → Prop} (hi : (i, Ent.rows (ints xs) 1 T) ∈ H) (hin : i < nx) (hm : m = xs.length) (hl : xs.length ≤ 1000000)
    (h : ∀ ys, K (.os i (Lib.compact xs).length) (setH i (.rows (ints ys) 1 T) H) S nx) : callK cx 153 [.os i m] H S nx K := by
  obtain ⟨P, B, n, tb⟩ := cx
  simp only at hP
  subst hP
  have hle : (Lib.compact xs).length ≤ xs.length := by
    simp only [Lib.compact, Lib.compactUpTo, List.length_map]
    refine Nat.le_trans (List.length_filter_le _ _) (by simp)
  refine call_put Tryz.call153 hi hm (ys := Lib.compact xs ++ List.replicate (xs.length - (Lib.compact xs).length) 0) (by rw [List.length_append, List.length_replicate]; omega) (fun l => .slice l.base (Lib.compact xs).length l.cap) (.os i (Lib.compact xs).length) (SV.lt_os hin) (fun _ => rfl) (fun cap w hx => ?_) (fun b off cap w hH hb hc => ?_) (h _)
  · subst hx
    exact Any.slices_Compact_int_empty compLays none cap w
  · refine (Any.slices_Compact_int compLays b off cap xs w hH (by omega) hc).mono ?_
    rintro e w' ⟨h1, q, rfl⟩
    exact ⟨h1, q, #[], by rw [grow_empty]⟩
def NewW (w : World) (l : List Int) (e : Ending) (w' : World) : Prop := ∃ v, e = .returned v ∧ Ext w w' ∧ NewRows w w' v 1 3 (ints l)
set_option maxHeartbeats 1000000 in
theorem sorted_any (w : World) (Bs : Nat) (base : Option Addr) (cap : Nat) (zs : List Int) (hl : zs.length ≤ 1000000) (hBs : Bs < w.heap.size) (hc : w.cell? ⟨Bs, 0, none⟩ = some (.slice base zs.length cap)) (hI : IntsIn w base zs) :
    Calls Tryz.prog 151 #[.func (.func 162) #[] #[.pointer (some ⟨Bs, 0, none⟩)]] w (NewW w (srt zs)) := by
  refine calls_of tab tabOk Tryz.func151 rfl rfl rfl [] (fun _ => ⟨none, 0⟩) [.c (.func (.func 162) #[] #[.pointer (some ⟨Bs, 0, none⟩)])] [] (baseA w) 0 rfl rfl (by show 1 ≤ _; decide) (abs_base w) ?_
  (repeat' ((conv => whnf) <;> first | (show Wp _ _ _ _ _ _ _; refine Wp.go tabOk rfl ?_) | (show @cmpK _ _ _; (first | refine cmpY ?_ | refine cmpN ?_ | (refine cmp_both ?_ ?_ <;> intro _))) | (show wrapK _ _ _; refine wrapA ?_) | (show leK _ _ _; refine leA ?_) | (show roomK _ _ _; refine roomA ?_) | (show ltK _ _ _; refine ltA ?_) | (show _ ∧ _; refine ⟨?_, ?_⟩) | (show keepK _ _ _ _ _; refine keepA ?_) | refine own_keep ?_ | refine ap_old ?_))
  refine call_new (f := 160) Tryz.call160 1 3 (fun _ : Unit => ints zs) (fun _ => True) (fun ρ w' hw => ?_) (fun _ _ => ?_)
  · have he := ext_of_abs hw (fun _ _ h => h)
    refine (collect_any w' Bs base cap zs (by omega) (Nat.lt_of_lt_of_le hBs he.size) ((he.cell (p := ⟨Bs, 0, none⟩) hBs).trans hc) (hI.below he)).mono ?_
    rintro e w2 ⟨v, h1, h2, h3⟩
    exact ⟨(), trivial, v, h1, h3, h2⟩
  (repeat' ((conv => whnf) <;> first | (show callK _ 161 _ _ _ _ _; refine call_sort rfl (xs := zs) List.mem_cons_self (ints_length zs) hl ?_) | (show Wp _ _ _ _ _ _ _; refine Wp.go tabOk rfl ?_) | (show @cmpK _ _ _; (first | refine cmpY ?_ | refine cmpN ?_ | (refine cmp_both ?_ ?_ <;> intro _))) | (show wrapK _ _ _; refine wrapA ?_) | (show leK _ _ _; refine leA ?_) | (show roomK _ _ _; refine roomA ?_) | (show ltK _ _ _; refine ltA ?_) | (show _ ∧ _; refine ⟨?_, ?_⟩) | (show keepK _ _ _ _ _; refine keepA ?_) | refine own_keep ?_ | refine ap_old ?_))
  all_goals (conv => whnf)
  refine fin_of fun ρ w' hw => ⟨_, rfl, ext_of_abs hw (fun _ _ h => h), ?_⟩
  have := new_of_abs hw (fun _ _ h => h) (i := 0) (xs := ints (srt zs)) (k := 1) (T := 3) (by repeat (first | exact List.mem_cons_self | apply List.mem_cons_of_mem))
  rw [ints_length, srt_length] at this
  rw [ints_length]
  exact this
theorem ro_own {xs : List Int} {j : Nat} {K : Value → Prop} (hj : j < xs.length) (h : K (.int .i64 (xs.getD j 0))) : rowK (ints xs) j 0 K := by
  refine row_of _ _ (ints_get hj) rfl ?_
  have e : xs.getD j 0 = xs[j] := by simp [List.getD, hj]
  rw [← e]; exact h
set_option maxHeartbeats 1000000 in
theorem places_any (w : World) (u : IntsV) (hu : u.ok w) (slots : Int) : Calls Tryz.prog 126 #[u.val, .int .i64 slots] w fun e w' => e = .returned (.bool (placesL u.xs slots)) ∧ Ext w w' := by
  have hf := hu.few
  have hI := hu.within
  refine calls_of tab tabOk Tryz.func126 rfl rfl rfl [] (fun _ => ⟨none, 0⟩) [.c u.val, .c (.int .i64 slots)] [] (baseA w) 0 rfl rfl (by show 2 ≤ _; decide) (abs_base w) ?_
  (repeat' ((conv => whnf) <;> first | (show Wp _ _ _ _ _ _ _; refine Wp.go tabOk rfl ?_) | (show @cmpK _ _ _; (first | refine cmpY ?_ | refine cmpN ?_ | (refine cmp_both ?_ ?_ <;> intro _))) | (show wrapK _ _ _; refine wrapA ?_) | (show leK _ _ _; refine leA ?_) | (show roomK _ _ _; refine roomA ?_) | (show ltK _ _ _; refine ltA ?_) | (show _ ∧ _; refine ⟨?_, ?_⟩) | (show keepK _ _ _ _ _; refine keepA ?_) | refine own_keep ?_ | refine ap_old ?_))
  refine values_call u.base u.xs.length u.cap rfl (fun Bs => ?_)
  (repeat' ((conv => whnf) <;> first | (show Wp _ _ _ _ _ _ _; refine Wp.go tabOk rfl ?_) | (show @cmpK _ _ _; (first | refine cmpY ?_ | refine cmpN ?_ | (refine cmp_both ?_ ?_ <;> intro _))) | (show wrapK _ _ _; refine wrapA ?_) | (show leK _ _ _; refine leA ?_) | (show roomK _ _ _; refine roomA ?_) | (show ltK _ _ _; refine ltA ?_) | (show _ ∧ _; refine ⟨?_, ?_⟩) | (show keepK _ _ _ _ _; refine keepA ?_) | refine own_keep ?_ | refine ap_old ?_))
  refine call_new (f := 151) Tryz.call151 1 3 (fun _ : Unit => ints (srt u.xs)) (fun _ => True) (fun ρ w' hw => ?_) (fun _ _ => ?_)
  · have he := ext_of_abs hw (fun _ _ h => h.1)
    have hc : w'.cell? ⟨Bs, 0, none⟩ = some (.slice u.base u.xs.length u.cap) := holds_of_abs hw fun R h => by
      rcases h.2.2 with h | ⟨b, off, e, _, hcc⟩
      · simp at h
      · have := hcc 0 _ rfl 0 _ rfl
        simp only [Option.some.injEq, Addr.mk.injEq, and_true] at e
        rw [e.1, e.2]
        simpa using this
    refine (sorted_any w' Bs u.base u.cap u.xs hf (cell_lt hc) hc (hI.below he)).mono ?_
    rintro e w2 ⟨v, h1, h2, h3⟩
    exact ⟨(), trivial, v, h1, h2, h3⟩
  have hsl := srt_length u.xs
  have hil := ints_length (srt u.xs)
  by_cases h0 : u.xs.length = 0
  · have hx : u.xs = [] := List.eq_nil_of_length_eq_zero h0
    (repeat' ((conv => whnf) <;> first | (show @cmpK _ _ _; (first | refine cmp_yes (by rw [ints_length]; omega) ?_)) | (show Wp _ _ _ _ _ _ _; refine Wp.go tabOk rfl ?_) | (show @cmpK _ _ _; (first | refine cmpY ?_ | refine cmpN ?_ | (refine cmp_both ?_ ?_ <;> intro _))) | (show wrapK _ _ _; refine wrapA ?_) | (show leK _ _ _; refine leA ?_) | (show roomK _ _ _; refine roomA ?_) | (show ltK _ _ _; refine ltA ?_) | (show _ ∧ _; refine ⟨?_, ?_⟩) | (show keepK _ _ _ _ _; refine keepA ?_) | refine own_keep ?_ | refine ap_old ?_))
    all_goals (conv => whnf)
    all_goals exact ends_bool (fun _ _ h => h.1) rfl (by rw [hx]; exact places_empty slots)
  · have hp := places_plain slots (zs := u.xs) (by omega)
    (repeat' ((conv => whnf) <;> first | (show @cmpK _ _ _; (first | refine cmp_no (by rw [ints_length]; omega) ?_ | (refine cmp_both ?_ ?_ <;> intro _))) | (show idxRowK _ _ _ _ _ _; (first | refine idxRow_of 0 rfl (by rw [ints_length]; omega) (Nat.le_refl _) ?_ | refine idxRow_of (u.xs.length - 1) (by omega) (by omega) (Nat.le_refl _) ?_)) | (show rowK _ _ _ _; (first | refine ro_own (xs := srt u.xs) (j := 0) (by omega) ?_ | refine ro_own (xs := srt u.xs) (j := u.xs.length - 1) (by omega) ?_)) | (show callK _ 153 _ _ _ _ _; refine call_compact rfl (xs := srt u.xs) List.mem_cons_self (by omega) (ints_length _) (by omega) (fun ys => ?_)) | (show Wp _ _ _ _ _ _ _; refine Wp.go tabOk rfl ?_) | (show @cmpK _ _ _; (first | refine cmpY ?_ | refine cmpN ?_ | (refine cmp_both ?_ ?_ <;> intro _))) | (show wrapK _ _ _; refine wrapA ?_) | (show leK _ _ _; refine leA ?_) | (show roomK _ _ _; refine roomA ?_) | (show ltK _ _ _; refine ltA ?_) | (show _ ∧ _; refine ⟨?_, ?_⟩) | (show keepK _ _ _ _ _; refine keepA ?_) | refine own_keep ?_ | refine ap_old ?_))
    all_goals (conv => whnf)
    · exact ends_bool (fun _ _ h => h.1) rfl (hp.2 ⟨by omega, by omega, by omega⟩)
    all_goals exact ends_bool (fun _ _ h => h.1) rfl (Bool.eq_false_iff.2 fun h => by have := hp.1 h; omega)
end Go.Proofs.YtgndjjdeopfdkaaGreat

/- QF -/
namespace Go.Proofs.YtgndjjdeopfdkaaGreat
open Go.SX Go.RowKit
structure LowOk (c : LowC) (s : LowV) : Prop where
  plains : ∀ p ∈ s.plains, p.sane
  inputs : ∀ x ∈ s.inputs, x.slots ∈ c.spots.l ∧ i64 x.lo ∧ i64 x.hi
def newL (old new : List IntsV) : Asn where
  holds R w := ∀ u ∈ new, u ∈ old ∨ (intsA u).holds R w
  stable := fun hR hw h u hu => (h u hu).imp id ((intsA u).stable hR hw)
theorem newL_refl (l : List IntsV) (R : Nat → Prop) (w : World) : (newL l l).holds R w := fun _ hu => .inl hu
theorem newL_join {a b : List IntsV} {G : Nat → Prop} {R : Nat → Prop} {w : World} (h1 : (intsL a).holds R w) (h2 : ((newL a b).off G).holds R w) : (intsL b).holds R w := fun u hu => (h2 u hu).elim (h1 u) (fun h => (intsA u).mono h (fun b hb => hb.1))
abbrev NodePost (w : World) (ρ : Nat → SX.Loc) (F : Nat → Prop) (c : LowC) (s : LowV) (vl : List Int) (r : LowP × Int) := LowPost w ρ F (fun x : LowV × Int => .c (.int .i64 x.2)) (fun x => lowH c x.1 vl) (fun x => newL s.plains x.1.plains) (fun x => x.1.pl = r.1 ∧ x.2 = r.2 ∧ LowOk c x.1)
theorem layV_ok {c : LowC} {s : LowV} (h : LowOk c s) (op a b k : Int) : LowOk c (layV s op a b k) := ⟨h.plains, h.inputs⟩
theorem plainV_ok {c : LowC} {s : LowV} (h : LowOk c s) {u : IntsV} (hu : u.sane) : LowOk c (plainV s u).1 := by
  unfold plainV
  split
  · exact h
  · refine ⟨fun p hp => ?_, h.inputs⟩
    rcases List.mem_append.1 hp with hp | hp
    · exact h.plains p hp
    · rw [List.mem_singleton.1 hp]; exact hu
theorem plainV_few (s : LowV) (u : IntsV) : (plainV s u).1.plains.length ≤ s.plains.length + 1 := by
  unfold plainV; split <;> simp
structure NodeAt (c : LowC) (s : LowV) (vl : List Int) : Prop where
  slots : 1 ≤ c.slots ∧ c.slots ≤ 4096
  ok : LowOk c s
  fewP : s.plains.length ≤ 500000
  fewC : s.code.length ≤ 500000
  fewI : s.inputs.length ≤ 500000
end Go.Proofs.YtgndjjdeopfdkaaGreat

/- QG -/
namespace Go.Proofs.YtgndjjdeopfdkaaGreat
open Go.SX Go.RowKit
/-- what is known of all worlds to come -/
def knowA (p : World → Prop) : Asn where
  holds R w := ∃ E : Asn, E.holds R w ∧ ∀ R' w', E.holds R' w' → p w'
  stable := fun hR hw ⟨E, h1, h2⟩ => ⟨E, E.stable hR hw h1, h2⟩
theorem know_in {p : World → Prop} {R : Nat → Prop} {w : World} (h : (knowA p).holds R w) : p w := by
  obtain ⟨E, h1, h2⟩ := h
  exact h2 R w h1
def intsK (u : IntsV) : Asn := knowA fun w => RowsI w u.base 1 (ints u.xs)
def nodeA (n : NodeV) : Asn := (intsK n.shape).and ((intsK n.data).and (intsK n.bias))
abbrev nodeF (c : LowC) (s : LowV) (n : NodeV) : Asn := ((intsL s.plains).and (spotsA c)).and (nodeA n)
theorem call_spread {cx : Cx} (hP : cx.P = Tryz.prog) {args : List SV} {H : Heap} {S : Asn} {nx : Nat} {K : SV → Heap → Asn → Nat → Prop} (θ : Map) (c : LowC) (s : LowV) (vl : List Int) (g : FuncId) (cells : List Value) (Tb : TypeId) (i : Nat) (f : Nat → Int) (E : Asn) (sp : IntsV) (hn : c.slots ≤ 4096) (hs : ∀ p ∈ s.plains, p.sane) (hl : s.plains.length ≤ 1000000) (hi : c.spots.l[i]? = some sp) (hsps : sp.sane) (hb : ∀ x ∈ sp.xs, 0 ≤ x ∧ x < c.slots) (hff : ∀ e, e < sp.xs.length → i64 (f e))
    (hg : ∀ ar w, (callFunc g ar).run Tryz.prog w = .ok (.enter g ar) w)
    (hof : ∀ R w' b (e : Nat), e < sp.xs.length → w'.heap[b]? = some (.cells cells.toArray Tb (0, 0)) → E.holds R w' → Calls Tryz.prog g #[.int .i64 e, .pointer (some ⟨b, 0, none⟩)] w' fun en w'' => en = .returned (.int .i64 (f e)) ∧ Ext w' w'')
    (hm : mapWf 0 θ (spreadH c s vl cells Tb) = true) (hin : heapInto θ H (spreadH c s vl cells Tb)) (h0 : ∃ j, θ.app 0 = some j) (h1 : ∃ j, θ.app 1 = some j) (ha : args = SV.rens θ.app [.lp 0 0 0 0, .c (.int .i64 i), .fn (.func g) [] [.lp 5 0 0 0]])
    (hA : ∀ R w, S.holds R w → (((intsL s.plains).and (spotsA c)).and E).holds R w) (G : Nat → Prop) (hG : ∀ R w, S.holds R w → ∀ b, G b → R b)
    (h : ∀ u : IntsV, u.xs = spreadR c.slots sp.xs f → u.sane → K (.c (.int .i64 (plainV s u).2)) (lessH θ (spreadH c s vl cells Tb) H ++ renH (backG 2 nx θ) (spreadH c (plainV s u).1 vl cells Tb)) (S.and ((intsA u).off G)) (nx + 6)) : callK cx 69 args H S nx K := by
  obtain ⟨P, B, n, tab⟩ := cx
  subst hP
  refine call_obj θ 2 6 (spreadH c s vl cells Tb) (((intsL s.plains).and (spotsA c)).and E) [.lp 0 0 0 0, .c (.int .i64 i), .fn (.func g) [] [.lp 5 0 0 0]] (fun u : IntsV => .c (.int .i64 (plainV s u).2)) (fun u => spreadH c (plainV s u).1 vl cells Tb) (fun u => intsA u) (fun u => u.xs = spreadR c.slots sp.xs f ∧ u.sane) Tryz.call69 hm (spread_wf _ _ _ _ _) hin (fun i hi => ?_) (by decide) ha hA G hG (fun w ρ F h' => low_spread c s vl g cells Tb _ f E sp hn hs hl hi hsps hb hff hg hof w ρ F h') (fun u hu => h u hu.1 hu.2)
  have : i = 0 ∨ i = 1 := by omega
  rcases this with rfl | rfl
  · obtain ⟨j, hj⟩ := h0
    exact ⟨j, _, hj, (by repeat (first | exact List.mem_cons_self | apply List.mem_cons_of_mem))⟩
  · obtain ⟨j, hj⟩ := h1
    exact ⟨j, _, hj, (by repeat (first | exact List.mem_cons_self | apply List.mem_cons_of_mem))⟩
end Go.Proofs.YtgndjjdeopfdkaaGreat

/- QH -/
namespace Go.Proofs.YtgndjjdeopfdkaaGreat
abbrev dtQH0 : Go.SX.DT := (.take 0 (.take 1 (.take 2 (.take 3 (.take 4 (.take 5 (.take 6 (.take 7 (.take 8 (.take 9 (.take 10 (.take 11 (.take 12 (.take 13 (.take 14 (.take 15 (.take 16 (.take 17 (.one 18 (.one 19 (.one 20 (.one 21 (.take 22 (.one 23 (.done)))))))))))))))))))))))))
open Go.SX Go.RowKit
def inpV (s : LowV) (lo hi : Int) (sp : IntsV) : LowV := ⟨s.inputs ++ [⟨lo, hi, sp⟩], s.plains, s.code⟩
def lowInput (s : LowP) (lo hi : Int) (sl : List Int) : LowP × Int := lowLay ⟨s.inputs ++ [⟨lo, hi, sl⟩], s.plains, s.code⟩ 1 0 0 s.inputs.length
set_option maxRecDepth 20000 in
set_option maxHeartbeats 2000000 in
theorem low_input (c : LowC) (s : LowV) (vl : List Int) (n : NodeV) (i : Nat) (sp : IntsV) (hN : NodeAt c s vl) (hlo : i64 n.lo) (hhi : i64 n.hi) (hi : c.spots.l[i]? = some sp) (w : World) (ρ : Nat → SX.Loc) (F : Nat → Prop) (h : ObjIn w ρ F 2 5 (lowH c s vl) (nodeF c s n)) :
    Calls Tryz.prog 27 (SV.rfs ρ [.lp 0 0 0 0, .agg [.c (.int .i64 n.kind), .c (.int .i64 n.a), .c (.int .i64 n.b), .c n.shape.val, .c (.int .i64 n.lo), .c (.int .i64 n.hi), .c (.int .i64 n.size), .c n.data.val, .c n.bias.val], .c (.int .i64 i)]).toArray w (NodePost w ρ F c s vl (lowInput s.pl n.lo n.hi sp.xs)) := by
  have hcl := hN.fewC
  have hpl := hN.fewP
  have hil := hN.fewI
  refine calls_of tab tabOk Tryz.func27 rfl rfl rfl (pinL 2 ρ) ρ [.lp 0 0 0 0, .agg [.c (.int .i64 n.kind), .c (.int .i64 n.a), .c (.int .i64 n.b), .c n.shape.val, .c (.int .i64 n.lo), .c (.int .i64 n.hi), .c (.int .i64 n.size), .c n.data.val, .c n.bias.val], .c (.int .i64 i)] (lowH c s vl) ((nodeF c s n).and (restF w F)) 5 rfl rfl (by show 3 ≤ _; decide) h.abs ?_
  
  have hisl := (List.getElem?_eq_some_iff.1 hi).1
  have hrow : (shRows c.spots.l)[i]? = some [sp.val] := by unfold shRows; rw [List.getElem?_map, hi]; rfl
  refine Wp.know (p := ∃ a, c.spots.base = some a) (fun ρ w' hw => holds_of_abs hw fun R h => base_some (j := i) (rowsA_in h.1.1.2.1) (by rw [shRows_length]; exact hisl)) ?_
  rintro ⟨sa, hsa⟩
  (repeat' ((conv => whnf) <;> first | (show drawK _ 1 _ _ _ _ _ _; refine draw_tree tabOk mixed [23] _ dtQH0 (by kernel_rfl) (by kernel_rfl) (by kernel_rfl) (List.Sublist.cons_cons _ (List.Sublist.cons_cons _ (List.Sublist.cons_cons _ (List.Sublist.cons _ (List.Sublist.refl _))))) ?_) | (show keepK _ _ _ _ _; refine keepB ?_) | (show idxK _ _ _ _ _; refine idx_of sa i hsa rfl hisl ?_) | (show roK _ _ _; (refine ro_row0 (fun R w' h => by rw [← hsa]; exact rowsA_in h.1.1.2.1) _ _ hrow rfl ?_)) | (show leK _ _ _; (refine le_of (by rw [inpRows_length]; exact Nat.le_refl _) ?_)) | (show roomK _ _ _; (refine room_of (by show (s.inputs.length + 1) * 40 ≤ 140737488355328; omega) ?_)) | (show ownK _ ((_, .rows (List.take s.inputs.length _ ++ _) _ _) :: _) _ _ _; refine own_eq (ys := inpRows (s.inputs ++ [InpV.mk n.lo n.hi sp])) (m := (s.inputs ++ [InpV.mk n.lo n.hi sp]).length) ?_ (inp_snoc s.inputs (InpV.mk n.lo n.hi sp)) (by show s.inputs.length + 1 = _; rw [List.length_append]; rfl)) | (show Wp _ _ _ _ _ _ _; refine Wp.go tabOk rfl ?_) | (show @cmpK _ _ _; (first | refine cmpY ?_ | refine cmpN ?_ | (refine cmp_both ?_ ?_ <;> intro _))) | (show wrapK _ _ _; refine wrapA ?_) | (show leK _ _ _; refine leA ?_) | (show roomK _ _ _; refine roomA ?_) | (show ltK _ _ _; refine ltA ?_) | (show _ ∧ _; refine ⟨?_, ?_⟩) | (show keepK _ _ _ _ _; refine keepA ?_) | refine own_keep ?_ | refine ap_old ?_))
  have hz : (((s.inputs ++ [InpV.mk n.lo n.hi sp]).length : Nat) : Int) - 1 = s.inputs.length := by rw [List.length_append, List.length_singleton]; omega
  (repeat' ((conv => whnf) <;> first | (show wrapK _ _ _; (refine wrap_to (y := (s.inputs.length : Int)) (by rw [hz]; exact IntWalk.i64_in _ ⟨by omega, by omega⟩) ?_)) | (show callK _ 68 _ _ _ _ _; (refine call_low [(0, some 0), (1, some 1), (2, some 7), (3, some 3), (4, some 4)] c (inpV s n.lo n.hi sp) vl trueA [.lp 0 0 0 0, .c (.int .i64 1), .c (.int .i64 0), .c (.int .i64 0), .c (.int .i64 s.inputs.length)] _ _ _ _ Tryz.call68 rfl ⟨(by repeat (first | exact List.mem_cons_self | apply List.mem_cons_of_mem)), (by repeat (first | exact List.mem_cons_self | apply List.mem_cons_of_mem)), (by repeat (first | exact List.mem_cons_self | apply List.mem_cons_of_mem)), (by repeat (first | exact List.mem_cons_self | apply List.mem_cons_of_mem)), (by repeat (first | exact List.mem_cons_self | apply List.mem_cons_of_mem)), trivial⟩ ⟨_, rfl⟩ ⟨_, rfl⟩ rfl (fun R w' h => trivial) (othF w F) (fun R w' h b hb => (h.2 b hb).1) (fun w' ρ' F' h' => low_lay c (inpV s n.lo n.hi sp) vl 1 0 0 s.inputs.length (by show s.code.length ≤ _; omega) w' ρ' F' h') (fun _ _ => ?_))) | (show drawK _ 1 _ _ _ _ _ _; refine draw_tree tabOk mixed [23] _ dtQH0 (by kernel_rfl) (by kernel_rfl) (by kernel_rfl) (List.Sublist.refl _) ?_) | (show Wp _ _ _ _ _ _ _; refine Wp.go tabOk rfl ?_) | (show @cmpK _ _ _; (first | refine cmpY ?_ | refine cmpN ?_ | (refine cmp_both ?_ ?_ <;> intro _))) | (show wrapK _ _ _; refine wrapA ?_) | (show leK _ _ _; refine leA ?_) | (show roomK _ _ _; refine roomA ?_) | (show ltK _ _ _; refine ltA ?_) | (show _ ∧ _; refine ⟨?_, ?_⟩) | (show keepK _ _ _ _ _; refine keepA ?_) | refine own_keep ?_ | refine ap_old ?_))
  all_goals (conv => whnf)
  all_goals exact obj_end _ _ _ _ (layV (inpV s n.lo n.hi sp) 1 0 0 s.inputs.length, (s.code.length : Int)) [(2, some 10), (3, some 11), (4, some 12)] ⟨by unfold lowInput lowLay layV inpV LowV.pl; simp [InpV.pl], rfl, ⟨hN.ok.plains, fun x hx => by
    rcases List.mem_append.1 hx with hx | hx
    · exact hN.ok.inputs x hx
    · rw [List.mem_singleton.1 hx]; exact ⟨List.mem_of_getElem? hi, hlo, hhi⟩⟩⟩ (by decide) rfl rfl rfl rfl ⟨(by repeat (first | exact List.mem_cons_self | apply List.mem_cons_of_mem)), (by repeat (first | exact List.mem_cons_self | apply List.mem_cons_of_mem)), (by repeat (first | exact List.mem_cons_self | apply List.mem_cons_of_mem)), (by repeat (first | exact List.mem_cons_self | apply List.mem_cons_of_mem)), (by repeat (first | exact List.mem_cons_self | apply List.mem_cons_of_mem)), trivial⟩ (fun R w' h => ⟨h.1.2, newL_refl _ _ _⟩)
end Go.Proofs.YtgndjjdeopfdkaaGreat

/- QHa -/
namespace Go.Proofs.YtgndjjdeopfdkaaGreat
open Go.SX Go.RowKit
def lowG (c : LowC) (s : LowV) (vl : List Int) (d v i2 i3 i4 : Nat) : Heap := [(d, .box [.c (.int .i64 c.slots), .os i2 s.inputs.length, .os i3 s.plains.length, .os i4 s.code.length, .c (.int .i64 0), .c (.slice none 0 0), .c (.bool c.giant), .c c.shapes.val, .c c.spots.val, .os v vl.length] 71), (v, .rows (ints vl) 1 3), (i2, .rows (inpRows s.inputs) 3 92), (i3, .rows (shRows s.plains) 1 32), (i4, .rows (insRows s.code) 5 43)]
abbrev mapG (d v i2 i3 i4 : Nat) : Map := [(0, some d), (1, some v), (2, some i2), (3, some i3), (4, some i4)]
theorem call_lowG {cx : Cx} {f : FuncId} {args : List SV} {S : Asn} {nx : Nat} {K : SV → Heap → Asn → Nat → Prop} {α : Type} (rest : Heap) (d v i2 i3 i4 : Nat) (c : LowC) (s : LowV) (vl : List Int) (A : Asn) (args0 : List SV) (val : α → Value) (s' : α → LowV) (D : α → Asn) (p : α → Prop)
    (hf : ∀ ar w, (callFunc f ar).run cx.P w = .ok (.enter f ar) w) (hm : mapWf 0 (mapG d v i2 i3 i4) (lowH c s vl) = true) (hl : lessH (mapG d v i2 i3 i4) (lowH c s vl) (rest ++ lowG c s vl d v i2 i3 i4) = rest)
    (ha : args = SV.rens (mapG d v i2 i3 i4).app args0) (hA : ∀ R w, S.holds R w → A.holds R w) (G : Nat → Prop) (hG : ∀ R w, S.holds R w → ∀ b, G b → R b)
    (hc : ∀ w ρ F, ObjIn w ρ F 2 5 (lowH c s vl) A → Calls cx.P f (SV.rfs ρ args0).toArray w (LowPost w ρ F (fun x => .c (val x)) (fun x => lowH c (s' x) vl) D p))
    (h : ∀ x, p x → K (.c (val x)) (rest ++ lowG c (s' x) vl d v (nx + 2) (nx + 3) (nx + 4)) (S.and ((D x).off G)) (nx + 5)) : callK cx f args (rest ++ lowG c s vl d v i2 i3 i4) S nx K := by
  have hin : ∀ q ∈ lowG c s vl d v i2 i3 i4, q ∈ rest ++ lowG c s vl d v i2 i3 i4 := fun q hq => List.mem_append.2 (.inr hq)
  refine call_low (mapG d v i2 i3 i4) c s vl A args0 (fun x => .c (val x)) s' D p hf hm ⟨hin _ (by repeat (first | exact List.mem_cons_self | apply List.mem_cons_of_mem)), hin _ (by repeat (first | exact List.mem_cons_self | apply List.mem_cons_of_mem)), hin _ (by repeat (first | exact List.mem_cons_self | apply List.mem_cons_of_mem)), hin _ (by repeat (first | exact List.mem_cons_self | apply List.mem_cons_of_mem)), hin _ (by repeat (first | exact List.mem_cons_self | apply List.mem_cons_of_mem)), trivial⟩ ⟨_, rfl⟩ ⟨_, rfl⟩ ha hA G hG hc (fun x hx => ?_)
  rw [hl]
  exact h x hx
/-- a call, after which some entries are let go -/
theorem call_sub {cx : Cx} {f : FuncId} {args : List SV} {H : Heap} {S : Asn} {nx : Nat} {K K' : SV → Heap → Asn → Nat → Prop} (hk : callK cx f args H S nx K') (h : ∀ v H' S' nx', K' v H' S' nx' → ∃ H2, H2.Sublist H' ∧ K v H2 S' nx') : callK cx f args H S nx K := by
  rw [callK_def] at hk ⊢
  refine ⟨hk.1, fun ρ w hw => (hk.2 ρ w hw).mono ?_⟩
  rintro e w' ⟨v, ρ', H', S', nx', h1, h2, h3, h4, h5, h6⟩
  obtain ⟨H2, g1, g2⟩ := h v H' S' nx' h6
  exact ⟨v, ρ', H2, S', nx', h1, h2, h3, h4, h5.sub g1 (fun _ _ h => h), g2⟩
theorem call_spreadG {cx : Cx} (hP : cx.P = Tryz.prog) {args : List SV} {S : Asn} {nx : Nat} {K : SV → Heap → Asn → Nat → Prop} (rest : Heap) (ib d v i2 i3 i4 : Nat) (c : LowC) (s : LowV) (vl : List Int) (g : FuncId) (cells : List Value) (Tb : TypeId) (i : Nat) (f : Nat → Int) (E : Asn) (sp : IntsV) (hn : c.slots ≤ 4096) (hs : ∀ p ∈ s.plains, p.sane) (hl : s.plains.length ≤ 1000000) (hi : c.spots.l[i]? = some sp) (hsps : sp.sane) (hb : ∀ x ∈ sp.xs, 0 ≤ x ∧ x < c.slots) (hff : ∀ e, e < sp.xs.length → i64 (f e))
    (hg : ∀ ar w, (callFunc g ar).run Tryz.prog w = .ok (.enter g ar) w)
    (hof : ∀ R w' b (e : Nat), e < sp.xs.length → w'.heap[b]? = some (.cells cells.toArray Tb (0, 0)) → E.holds R w' → Calls Tryz.prog g #[.int .i64 e, .pointer (some ⟨b, 0, none⟩)] w' fun en w'' => en = .returned (.int .i64 (f e)) ∧ Ext w' w'')
    (hm : mapWf 0 (mapG d v i2 i3 i4 ++ [(5, some ib)]) (spreadH c s vl cells Tb) = true) (hls : lessH (mapG d v i2 i3 i4 ++ [(5, some ib)]) (spreadH c s vl cells Tb) ((ib, .box (cs cells) Tb) :: (rest ++ lowG c s vl d v i2 i3 i4)) = rest) (ha : args = SV.rens (mapG d v i2 i3 i4 ++ [(5, some ib)] : Map).app [.lp 0 0 0 0, .c (.int .i64 i), .fn (.func g) [] [.lp 5 0 0 0]])
    (hA : ∀ R w, S.holds R w → (((intsL s.plains).and (spotsA c)).and E).holds R w) (G : Nat → Prop) (hG : ∀ R w, S.holds R w → ∀ b, G b → R b)
    (h : ∀ u : IntsV, u.xs = spreadR c.slots sp.xs f → u.sane → K (.c (.int .i64 (plainV s u).2)) (rest ++ lowG c (plainV s u).1 vl d v (nx + 2) (nx + 3) (nx + 4)) (S.and ((intsA u).off G)) (nx + 6)) : callK cx 69 args ((ib, .box (cs cells) Tb) :: (rest ++ lowG c s vl d v i2 i3 i4)) S nx K := by
  have hin : ∀ q ∈ lowG c s vl d v i2 i3 i4, q ∈ (ib, Ent.box (cs cells) Tb) :: (rest ++ lowG c s vl d v i2 i3 i4) := fun q hq => List.mem_cons_of_mem _ (List.mem_append.2 (.inr hq))
  refine call_sub (K' := fun w H' S' nx' => ∃ u : IntsV, (u.xs = spreadR c.slots sp.xs f ∧ u.sane) ∧ w = .c (.int .i64 (plainV s u).2) ∧ H' = rest ++ renH (backG 2 nx (mapG d v i2 i3 i4 ++ [(5, some ib)])) (spreadH c (plainV s u).1 vl cells Tb) ∧ S' = S.and ((intsA u).off G) ∧ nx' = nx + 6) (call_spread hP (mapG d v i2 i3 i4 ++ [(5, some ib)]) c s vl g cells Tb i f E sp hn hs hl hi hsps hb hff hg hof hm ⟨hin _ (by repeat (first | exact List.mem_cons_self | apply List.mem_cons_of_mem)), hin _ (by repeat (first | exact List.mem_cons_self | apply List.mem_cons_of_mem)), hin _ (by repeat (first | exact List.mem_cons_self | apply List.mem_cons_of_mem)), hin _ (by repeat (first | exact List.mem_cons_self | apply List.mem_cons_of_mem)), hin _ (by repeat (first | exact List.mem_cons_self | apply List.mem_cons_of_mem)), box_ren List.mem_cons_self, trivial⟩ ⟨_, rfl⟩ ⟨_, rfl⟩ ha hA G hG (fun u h1 h2 => ⟨u, ⟨h1, h2⟩, rfl, by rw [hls], rfl, rfl⟩)) ?_
  rintro w H' S' nx' ⟨u, ⟨h1, h2⟩, rfl, rfl, rfl, rfl⟩
  refine ⟨_, ?_, h u h1 h2⟩
  have e : renH (backG 2 nx (mapG d v i2 i3 i4 ++ [(5, some ib)])) (spreadH c (plainV s u).1 vl cells Tb) = lowG c (plainV s u).1 vl d v (nx + 2) (nx + 3) (nx + 4) ++ [(nx + 5, (Ent.box (cs cells) Tb).ren (backG 2 nx (mapG d v i2 i3 i4 ++ [(5, some ib)])))] := rfl
  rw [e, ← List.append_assoc]
  exact List.sublist_append_left _ _
end Go.Proofs.YtgndjjdeopfdkaaGreat

/- QI -/
namespace Go.Proofs.YtgndjjdeopfdkaaGreat
abbrev dtQI1 : Go.SX.DT := (.take 0 (.take 1 (.take 2 (.take 3 (.take 4 (.take 5 (.take 6 (.take 7 (.take 8 (.one 9 (.one 10 (.done))))))))))))
open Go.SX Go.RowKit
structure LowS3 (c : LowC) (k : Nat) (s : LowV) : Prop where
  ok : LowOk c s
  fewP : s.plains.length ≤ k
  fewC : s.code.length ≤ k
theorem LowS3.lay {c : LowC} {k : Nat} {s : LowV} (h : LowS3 c k s) (op a b x : Int) : LowS3 c (k + 1) (layV s op a b x) := ⟨layV_ok h.ok _ _ _ _, Nat.le_succ_of_le h.fewP, by show (s.code ++ _).length ≤ _; rw [List.length_append, List.length_singleton]; have := h.fewC; omega⟩
theorem LowS3.plain {c : LowC} {k : Nat} {s : LowV} {u : IntsV} (h : LowS3 c k s) (hu : u.sane) : LowS3 c (k + 1) (plainV s u).1 := ⟨plainV_ok h.ok hu, by have := plainV_few s u; have := h.fewP; omega, by rw [plainV_code]; exact Nat.le_succ_of_le h.fewC⟩
theorem LowS3.zero {c : LowC} {k : Nat} {s : LowV} {u : IntsV} (h : LowS3 c k s) (hu : u.sane) (x : Int) : LowS3 c (k + 2) (zeroV s u x) := (h.plain hu).lay _ _ _ _
theorem plainV_L {s : LowV} {u : IntsV} {R : Nat → Prop} {w : World} (h : (intsL s.plains).holds R w) (hu : (intsA u).holds R w) : (intsL (plainV s u).1.plains).holds R w := by
  unfold plainV
  split
  · exact h
  · exact intsL_snoc h hu
theorem newL_more {old : List IntsV} {s : LowV} {u : IntsV} {G : Nat → Prop} {R : Nat → Prop} {w : World} (h : ((newL old s.plains).off G).holds R w) (hu : ((intsA u).off G).holds R w) : ((newL old (plainV s u).1.plains).off G).holds R w := by
  unfold plainV
  split
  · exact h
  · intro v hv
    rcases List.mem_append.1 hv with hv | hv
    · exact h v hv
    · rw [List.mem_singleton.1 hv]; exact .inr hu
theorem lowLay_pl (s : LowV) (op a b k : Int) : lowLay s.pl op a b k = ((layV s op a b k).pl, (s.code.length : Int)) := rfl
theorem lowSpread_pl {n : Nat} {s : LowV} {sl : List Int} {f : Nat → Int} {u : IntsV} (hu : u.xs = spreadR n sl f) : lowSpread n s.pl sl f = ((plainV s u).1.pl, (plainV s u).2) := by
  unfold lowSpread
  rw [← hu, ← plainV_pl]
theorem lowZero_pl {n : Nat} {s : LowV} {x : Int} {u : IntsV} (hu : u.xs = List.replicate n 0) : lowZero n s.pl x = ((zeroV s u x).pl, (s.code.length : Int)) := by
  unfold lowZero
  rw [← hu, ← plainV_pl]
  simp only [lowLay_pl, plainV_code]
  rfl
end Go.Proofs.YtgndjjdeopfdkaaGreat

/- QJ -/
namespace Go.Proofs.YtgndjjdeopfdkaaGreat
open Go.SX Go.RowKit Go.Shelf
def grow_ren : Go.Shelf.Ren := ⟨fun | 4 => 155 | n => n, fun | 0 => 0 | 3 => 3 | 4 => 4 | 9 => 9 | 20 => 20 | 22 => 32 | 25 => 3 | n => n, fun n => n⟩
set_option maxRecDepth 20000 in
theorem growLays : Go.Proofs.Lays8.n4 Tryz.prog grow_ren := {
  mixed := by kernel_rfl
  f4 := ⟨ "slices.Grow[[]int,int]", by rfl, Tryz.func155.trans (congrArg some (by kernel_rfl))⟩
  t0 := Tryz.underlying0
  a0 := Tryz.isAgg0
  z0 := Tryz.sizeOf0
  v0 := Tryz.zeroValue0
  t3 := Tryz.underlying3
  a3 := Tryz.isAgg3
  z3 := Tryz.sizeOf3
  v3 := Tryz.zeroValue3
  t4 := Tryz.underlying4
  a4 := Tryz.isAgg4
  z4 := Tryz.sizeOf4
  v4 := Tryz.zeroValue4
  t9 := Tryz.underlying9
  a9 := Tryz.isAgg9
  z9 := Tryz.sizeOf9
  v9 := Tryz.zeroValue9
  t20 := Tryz.underlying20
  a20 := Tryz.isAgg20
  z20 := Tryz.sizeOf20
  v20 := Tryz.zeroValue20
  t22 := Tryz.underlying32
  a22 := Tryz.isAgg32
  z22 := Tryz.sizeOf32
  v22 := Tryz.zeroValue32
}
theorem grow_any (w : World) (x : Int) (n : Nat) (hx : x = n) (h0 : 0 < n) (hn : n ≤ 1000000000) :
    Calls Tryz.prog 155 #[.slice none 0 0, .int .i64 x] w fun e w' => ∃ v, e = .returned v ∧ Ext w w' ∧ NewRows w w' v 1 3 [] := by
  subst hx
  have hi : ∃ i, Tryz.prog.info? 3 = some i ∧ i.zero = some (.int .i64 0) ∧ i.size = 1 ∧ i.bytes = 8 := by
    have h : (Tryz.prog.info? 3).map (fun i => (i.zero, i.size, i.bytes)) = some (some (.int .i64 0), 1, 8) := by kernel_rfl
    cases hi : Tryz.prog.info? 3 with
    | none => rw [hi] at h; cases h
    | some i =>
      rw [hi] at h
      simp only [Option.map_some, Option.some.injEq, Prod.mk.injEq] at h
      exact ⟨i, rfl, h⟩
  obtain ⟨i, h1, h2, h3, h4⟩ := hi
  refine (Any8.slices_Grow_grow growLays i (.int .i64 0) h1 h2 (by omega) none 0 0 n [] w (Nat.le_refl _) (by omega) (by rw [h4]; omega) (by omega) (by simp) (fun _ => rfl) (fun a h => by cases h)).mono ?_
  rintro e w' ⟨rfl, rfl⟩
  refine ⟨_, rfl, (Ext.trans (show Ext w w.drew from ⟨rfl, rfl, rfl, Nat.le_refl _, fun _ _ => rfl⟩) (ext_alloc w.drew _)), ⟨some ⟨w.heap.size, 0, none⟩, _⟩, rfl, fun b => b = w.heap.size, fun b hb => by omega, by simp, Nat.zero_le _, .inr ⟨w.heap.size, 0, _, rfl, fun _ => Iff.rfl, alloc_new w.drew _, ?_, ?_⟩⟩
  · have := grownCap_le w (0 + n) 0 3
    show 0 + grownCap w (0 + n) 0 3 * 1 ≤ _
    have e : grow_ren.t 25 = 3 := rfl
    rw [e]
    simp [Builtin.zeroCells, Value.cells]
    omega
  · intro i r h
    cases h
set_option maxHeartbeats 1000000 in
theorem concat_any (w : World) (a : Addr) (cap : Nat) (u v : IntsV) (hr : RowsI w (some a) 1 [[u.val], [v.val]]) (hu : u.ok w) (hv : v.ok w) (h0 : 0 < u.xs.length + v.xs.length) :
    Calls Tryz.prog 129 #[.slice (some a) 2 cap] w fun e w' => ∃ x, e = .returned x ∧ Ext w w' ∧ NewRows w w' x 1 3 (ints (u.xs ++ v.xs)) := by
  obtain ⟨ub, uc, us⟩ := u
  obtain ⟨vb, vc, vs⟩ := v
  obtain ⟨hu, _, _, hfu⟩ := hu
  obtain ⟨hv, _, _, hfv⟩ := hv
  simp only [IntsV.val] at *
  have eu := ints_length us
  have ev := ints_length vs
  refine calls_of tab tabOk Tryz.func129 rfl rfl rfl [] (fun _ => ⟨none, 0⟩) [.c (.slice (some a) 2 cap)] [] (baseA w) 0 rfl rfl (by show 1 ≤ _; decide) (abs_base w) ?_
  (repeat' ((conv => whnf) <;> first | (show Wp _ _ _ _ _ _ _; refine Wp.go tabOk rfl ?_) | (show @cmpK _ _ _; (first | refine cmpY ?_ | refine cmpN ?_ | (refine cmp_both ?_ ?_ <;> intro _))) | (show wrapK _ _ _; refine wrapA ?_) | (show leK _ _ _; refine leA ?_) | (show roomK _ _ _; refine roomA ?_) | (show ltK _ _ _; refine ltA ?_) | (show _ ∧ _; refine ⟨?_, ?_⟩) | (show keepK _ _ _ _ _; refine keepA ?_) | refine own_keep ?_ | refine ap_old ?_))
  refine Wp.rounds 3 ?_
  (repeat' ((conv => whnf) <;> first | (show idxK _ _ _ _ _; (first | refine idx_of a 0 rfl rfl (by decide) ?_ | refine idx_of a 1 rfl rfl (by decide) ?_)) | (show roK _ _ _; (first | refine ro_row0 (fun R w' h => rows_base h hr) _ _ (j := 0) rfl rfl ?_ | refine ro_row0 (fun R w' h => rows_base h hr) _ _ (j := 1) rfl rfl ?_)) | (show pureK _ _ _; refine leS_no (by omega) ?_) | (show callK _ 155 _ _ _ _ _; refine call_new (f := 155) Tryz.call155 1 3 (fun _ : Unit => []) (fun _ => True) (fun ρ w' hw => (grow_any w' _ (us.length + vs.length) (by omega) h0 (by omega)).mono (fun e w2 h => ⟨(), trivial, h⟩)) (fun _ _ => ?_)) | (show Wp _ _ _ _ _ _ _; refine Wp.go tabOk rfl ?_) | (show @cmpK _ _ _; (first | refine cmpY ?_ | refine cmpN ?_ | (refine cmp_both ?_ ?_ <;> intro _))) | (show wrapK _ _ _; refine wrapA ?_) | (show leK _ _ _; refine leA ?_) | (show roomK _ _ _; refine roomA ?_) | (show ltK _ _ _; refine ltA ?_) | (show _ ∧ _; refine ⟨?_, ?_⟩) | (show keepK _ _ _ _ _; refine keepA ?_) | refine own_keep ?_ | refine ap_old ?_))
  refine Wp.rounds 3 ?_
  have nil : ∀ {l : List Int}, RowsI w none 1 (ints l) → l = [] := fun {l} h => List.eq_nil_of_length_eq_zero (by
    rcases h with h | ⟨a, h, _⟩
    · have := congrArg List.length h
      rwa [ints_length] at this
    · cases h)
  have e : List.take (([] : List (List Value)).length + (ints us).length) (List.take ([] : List (List Value)).length [] ++ ints us) = ints us := by simp
  cases ub <;> cases vb
  · have := nil hu
    subst this
    have := nil hv
    subst this
    exact absurd h0 (by decide)
  · have := nil hu
    subst this
    (repeat' ((conv => whnf) <;> first | (show idxK _ _ _ _ _; (first | refine idx_of a 0 rfl rfl (by decide) ?_ | refine idx_of a 1 rfl rfl (by decide) ?_)) | (show roK _ _ _; (first | refine ro_row0 (fun R w' h => rows_base h hr) _ _ (j := 0) rfl rfl ?_ | refine ro_row0 (fun R w' h => rows_base h hr) _ _ (j := 1) rfl rfl ?_)) | (show pureK _ _ _; refine leS_no (by omega) ?_) | (show roRowsK _ _ _ _ _; refine roRows_in (ints_length _) (fun R w' h => rows_base h hv) ints_row ?_) | (show roomK _ _ _; (refine room_of (by simp only [List.length_take, List.length_append, ints_length, List.length_nil]; omega) ?_)) | (show leK _ _ _; (refine le_of (by simp only [List.length_take, List.length_append, ints_length, List.length_nil]; omega) ?_)) | (show Wp _ _ _ _ _ _ _; refine Wp.go tabOk rfl ?_) | (show @cmpK _ _ _; (first | refine cmpY ?_ | refine cmpN ?_ | (refine cmp_both ?_ ?_ <;> intro _))) | (show wrapK _ _ _; refine wrapA ?_) | (show leK _ _ _; refine leA ?_) | (show roomK _ _ _; refine roomA ?_) | (show ltK _ _ _; refine ltA ?_) | (show _ ∧ _; refine ⟨?_, ?_⟩) | (show keepK _ _ _ _ _; refine keepA ?_) | refine own_keep ?_ | refine ap_old ?_))
    all_goals (conv => whnf)
    exact ends_rows (xs := ints ([] ++ vs)) (fun _ _ h => h) rfl (by rw [List.nil_append]; exact .head _) (by simp [ints_length])
  · have := nil hv
    subst this
    (repeat' ((conv => whnf) <;> first | (show idxK _ _ _ _ _; (first | refine idx_of a 0 rfl rfl (by decide) ?_ | refine idx_of a 1 rfl rfl (by decide) ?_)) | (show roK _ _ _; (first | refine ro_row0 (fun R w' h => rows_base h hr) _ _ (j := 0) rfl rfl ?_ | refine ro_row0 (fun R w' h => rows_base h hr) _ _ (j := 1) rfl rfl ?_)) | (show pureK _ _ _; refine leS_no (by omega) ?_) | (show roRowsK _ _ _ _ _; refine roRows_in (ints_length _) (fun R w' h => rows_base h hu) ints_row ?_) | (show roomK _ _ _; (refine room_of (by simp only [List.length_take, List.length_append, ints_length, List.length_nil]; omega) ?_)) | (show leK _ _ _; (refine le_of (by simp only [List.length_take, List.length_append, ints_length, List.length_nil]; omega) ?_)) | (show Wp _ _ _ _ _ _ _; refine Wp.go tabOk rfl ?_) | (show @cmpK _ _ _; (first | refine cmpY ?_ | refine cmpN ?_ | (refine cmp_both ?_ ?_ <;> intro _))) | (show wrapK _ _ _; refine wrapA ?_) | (show leK _ _ _; refine leA ?_) | (show roomK _ _ _; refine roomA ?_) | (show ltK _ _ _; refine ltA ?_) | (show _ ∧ _; refine ⟨?_, ?_⟩) | (show keepK _ _ _ _ _; refine keepA ?_) | refine own_keep ?_ | refine ap_old ?_))
    all_goals (conv => whnf)
    exact ends_rows (xs := ints (us ++ [])) (fun _ _ h => h) rfl (by rw [List.append_nil us, e, List.append_nil (ints us)]; exact .head _) (by simp [ints_length])
  · (repeat' ((conv => whnf) <;> first | (show idxK _ _ _ _ _; (first | refine idx_of a 0 rfl rfl (by decide) ?_ | refine idx_of a 1 rfl rfl (by decide) ?_)) | (show roK _ _ _; (first | refine ro_row0 (fun R w' h => rows_base h hr) _ _ (j := 0) rfl rfl ?_ | refine ro_row0 (fun R w' h => rows_base h hr) _ _ (j := 1) rfl rfl ?_)) | (show pureK _ _ _; refine leS_no (by omega) ?_) | (show roRowsK _ _ _ _ _; (first | refine roRows_in (ints_length us) (fun R w' h => rows_base h hu) ints_row ?_ | refine roRows_in (ints_length vs) (fun R w' h => rows_base h hv) ints_row ?_)) | (show roomK _ _ _; (refine room_of (by simp only [List.length_take, List.length_append, ints_length, List.length_nil]; omega) ?_)) | (show leK _ _ _; (refine le_of (by simp only [List.length_take, List.length_append, ints_length, List.length_nil]; omega) ?_)) | (show Wp _ _ _ _ _ _ _; refine Wp.go tabOk rfl ?_) | (show @cmpK _ _ _; (first | refine cmpY ?_ | refine cmpN ?_ | (refine cmp_both ?_ ?_ <;> intro _))) | (show wrapK _ _ _; refine wrapA ?_) | (show leK _ _ _; refine leA ?_) | (show roomK _ _ _; refine roomA ?_) | (show ltK _ _ _; refine ltA ?_) | (show _ ∧ _; refine ⟨?_, ?_⟩) | (show keepK _ _ _ _ _; refine keepA ?_) | refine own_keep ?_ | refine ap_old ?_))
    all_goals (conv => whnf)
    exact ends_rows (xs := ints (us ++ vs)) (fun _ _ h => h) rfl (by rw [e, show ints (us ++ vs) = ints us ++ ints vs by simp [ints]]; exact .head _) (by simp [ints_length])
end Go.Proofs.YtgndjjdeopfdkaaGreat

/- LO -/
namespace Go.Proofs.YtgndjjdeopfdkaaGreat
open Go.RowKit Go.SX
abbrev DCell := SX.Loc × List Int
def dRow (p : DCell) : List Value := [.slice p.1.base p.2.length p.1.cap]
def dRows (L : List DCell) : List (List Value) := L.map dRow
def dGrp (L : List DCell) : List Cell1 := L.map fun p => (p.1, p.2.map (Value.int .i64))
def DIs (n : Nat) (p : DCell) : Prop := (p.1 = ⟨none, 0⟩ ∧ p.2 = []) ∨ ((∃ b off, p.1.base = some ⟨b, off, none⟩) ∧ p.2.length = n ∧ n ≤ p.1.cap)
structure DOk (n : Nat) (L : List DCell) : Prop where
  len : L.length = n
  each : ∀ p ∈ L, DIs n p
def stepPD (n : Nat) (D : List (List Int)) (s f w : Int) : List (List Int) :=
  if w = 0 then D else D.set ((f - s + n) % n).toNat ((if D.getD ((f - s + n) % n).toNat [] = [] then List.replicate n 0 else D.getD ((f - s + n) % n).toNat []).set s.toNat w)
def innerD (n : Nat) (fr row : List Int) (s : Int) (D : List (List Int)) (k : Nat) : List (List Int) := (List.range k).foldl (fun D i => stepPD n D s (fr.getD i 0) (row.getD i 0)) D
def outerD (n : Nat) (rows : List (List Int)) (fr to : List Int) (o : Nat) : List (List Int) := (List.range o).foldl (fun D o => innerD n fr (rows.getD o []) (to.getD o 0) D fr.length) (List.replicate n [])
theorem innerD_succ (n : Nat) (fr row : List Int) (s : Int) (D : List (List Int)) (k : Nat) : innerD n fr row s D (k + 1) = stepPD n (innerD n fr row s D k) s (fr.getD k 0) (row.getD k 0) := by simp [innerD, List.range_succ]
theorem outerD_succ (n : Nat) (rows : List (List Int)) (fr to : List Int) (o : Nat) : outerD n rows fr to (o + 1) = innerD n fr (rows.getD o []) (to.getD o 0) (outerD n rows fr to o) fr.length := by simp [outerD, List.range_succ]
theorem dRows_length (L : List DCell) : (dRows L).length = L.length := by simp [dRows]
theorem dRows_get {L : List DCell} {d : Nat} {p : DCell} (h : L[d]? = some p) : (dRows L)[d]? = some (dRow p) := by simp [dRows, h]
theorem dGrp_get {L : List DCell} {d : Nat} {p : DCell} (h : L[d]? = some p) : (dGrp L)[d]? = some (p.1, p.2.map (Value.int .i64)) := by simp [dGrp, h]
theorem dRows_set (L : List DCell) (d : Nat) (p : DCell) : dRows (L.set d p) = (dRows L).set d (dRow p) := by simp [dRows, List.map_set]
theorem dGrp_set (L : List DCell) (d : Nat) (p : DCell) : dGrp (L.set d p) = (dGrp L).set d (p.1, p.2.map (Value.int .i64)) := by simp [dGrp, List.map_set]
theorem DOk.set {n d : Nat} {L : List DCell} {p : DCell} (h : DOk n L) (hp : DIs n p) : DOk n (L.set d p) := ⟨by rw [List.length_set]; exact h.len, fun q hq => by
  rcases List.mem_or_eq_of_mem_set hq with hq | hq
  · exact h.each q hq
  · rw [hq]; exact hp⟩
def nilD (n : Nat) : List DCell := List.replicate n (⟨none, 0⟩, [])
theorem nilD_ok (n : Nat) : DOk n (nilD n) := ⟨by simp [nilD], fun p hp => .inl (by rw [(List.mem_replicate.1 hp).2]; exact ⟨rfl, rfl⟩)⟩
theorem nilD_snd (n : Nat) : (nilD n).map Prod.snd = List.replicate n [] := by simp [nilD]
theorem dRows_nil (n : Nat) : dRows (nilD n) = List.replicate n [.slice none 0 0] := by simp [dRows, nilD, dRow]
theorem dGrp_nil (n : Nat) : dGrp (nilD n) = List.replicate n (⟨none, 0⟩, []) := by simp [dGrp, nilD]
theorem snd_getD {L : List DCell} {d : Nat} {p : DCell} (h : L[d]? = some p) : (L.map Prod.snd).getD d [] = p.2 := by simp [List.getD, h]
/-- a step at a nil diagonal -/
theorem step_new {n d : Nat} {L : List DCell} {p : DCell} {s f w : Int} {l : SX.Loc} (hd : L[d]? = some p) (hp : p.2 = []) (hw : w ≠ 0) (hdd : (f - s + n) % n = d) : (L.set d (l, (List.replicate n 0).set s.toNat w)).map Prod.snd = stepPD n (L.map Prod.snd) s f w := by
  rw [stepPD, if_neg hw, hdd, Int.toNat_natCast, snd_getD hd, if_pos hp, List.map_set]
theorem step_old {n d : Nat} {L : List DCell} {p : DCell} {s f w : Int} (hd : L[d]? = some p) (hp : p.2 ≠ []) (hw : w ≠ 0) (hdd : (f - s + n) % n = d) : (L.set d (p.1, p.2.set s.toNat w)).map Prod.snd = stepPD n (L.map Prod.snd) s f w := by
  rw [stepPD, if_neg hw, hdd, Int.toNat_natCast, snd_getD hd, if_neg hp, List.map_set]
theorem dpos {n : Nat} {f s : Int} (h : 0 ≤ s ∧ s < n) (hf : 0 ≤ f ∧ f < n) : ∃ d : Nat, (f - s + n) % n = d ∧ d < n ∧ 0 ≤ f - s + n := by
  have h1 : 0 ≤ (f - s + n) % n := Int.emod_nonneg _ (by omega)
  have h2 : (f - s + n) % n < n := Int.emod_lt_of_pos _ (by omega)
  exact ⟨((f - s + n) % n).toNat, by omega, by omega, by omega⟩
theorem nil_yes {P : Program} {t : TypeId} {ti : TI} (h : mkTI P t = some ti) (hk : ti.kind = 1) {ox oy : Operand} {K : SV → Prop} (hK : K (.c (.bool true))) : pureK P (do eqGuard .eql t ox oy (.slice none 0 0) (.slice none 0 0); binOp .eql t (.slice none 0 0) (.slice none 0 0)) K := slice_nil_eql h hk hK
theorem nil_no {P : Program} {t : TypeId} {ti : TI} (h : mkTI P t = some ti) (hk : ti.kind = 1) {ox oy : Operand} {base : Option Addr} {a : Addr} {len cap : Nat} {K : SV → Prop} (e : base = some a) (hK : K (.c (.bool false))) : pureK P (do eqGuard .eql t ox oy (.slice base len cap) (.slice none 0 0); binOp .eql t (.slice base len cap) (.slice none 0 0)) K := by
  subst e; exact slice_nil_eql h hk hK
end Go.Proofs.YtgndjjdeopfdkaaGreat

/- LP -/
namespace Go.Proofs.YtgndjjdeopfdkaaGreat
open Go.RowKit Go.SX
def diagA (x : ShapesV) : Asn where
  holds R w := (rowsA x.base 1 (shRows x.l)).holds R w ∧ ∀ u ∈ x.l, (intsA u).holds R w
  stable := fun hR hw h => ⟨(rowsA _ _ _).stable hR hw h.1, fun u hu => (intsA u).stable hR hw (h.2 u hu)⟩
structure DiagIs (D : List (List Int)) (x : ShapesV) : Prop where
  rows : x.l.map IntsV.xs = D
  sane : ∀ u ∈ x.l, u.sane
  room : x.l.length ≤ x.cap
def DiagPost (w : World) (D : List (List Int)) (er : Int) : Ending → World → Prop := fun e w' => ∃ x : ShapesV, DiagIs D x ∧ e = .returned (.tuple #[x.val, .int .i64 er]) ∧ Ext w w' ∧ (diagA x).holds (fun b => w.heap.size ≤ b ∧ b < w'.heap.size) w'
def DiagN (n : Nat) (x : ShapesV) : Prop := ∀ u ∈ x.l, (u.xs = [] ∧ u.base = none) ∨ u.xs.length = n
def DiagPostN (w : World) (n : Nat) (D : List (List Int)) (er : Int) : Ending → World → Prop := fun e w' => ∃ x : ShapesV, (DiagIs D x ∧ DiagN n x) ∧ e = .returned (.tuple #[x.val, .int .i64 er]) ∧ Ext w w' ∧ (diagA x).holds (fun b => w.heap.size ≤ b ∧ b < w'.heap.size) w'
theorem DiagPostN.post {w w' : World} {n : Nat} {D : List (List Int)} {er : Int} {e : Ending} (h : DiagPostN w n D er e w') : DiagPost w D er e w' := by
  obtain ⟨x, h1, h2⟩ := h
  exact ⟨x, h1.1, h2⟩
def diagOk (rows : List (List Int)) (fr to : List Int) (slots : Int) : Prop := 1 ≤ slots ∧ slots ≤ 4096 ∧ rows.length = to.length ∧ placesL fr slots = true ∧ placesL to slots = true ∧ ∀ r ∈ rows, r.length = fr.length
theorem diag_failN {w : World} {n : Nat} {B : Base} {H : Heap} {S : Asn} {nx : Nat} (hb : ∀ R w', S.holds R w' → (baseA B.w0).holds R w') (hw0 : B.w0 = w) : finK B (.tup [.c (.slice none 0 0), .c (.int .i64 3)]) H S nx (DiagPostN w n [] 3) := by
  subst hw0
  refine fin_of fun ρ w' hw => ⟨⟨none, 0, []⟩, ⟨⟨rfl, fun _ h => (by cases h), Nat.le_refl _⟩, fun _ h => (by cases h)⟩, rfl, ext_of_abs hw hb, ⟨⟨fun _ h => (by cases h), .inl rfl⟩, fun _ h => by cases h⟩⟩
theorem placesL_of {l : List Int} {slots : Int} (h : placesL l slots = true) : (∀ x ∈ l, 0 ≤ x ∧ x < slots) ∧ l.Nodup := by simpa [placesL] using h
def dInt (p : DCell) : IntsV := ⟨p.1.base, p.1.cap, p.2⟩
theorem diag_end {w : World} {B : Base} {H : Heap} {S : Asn} {nx i g n m : Nat} {L : List DCell} (hb : ∀ R w', S.holds R w' → (baseA B.w0).holds R w') (hw0 : B.w0 = w) (hL : DOk n L) (hf : ∀ p ∈ L, ∀ x ∈ p.2, i64 x) (hn : n ≤ 1000000) (hm : m = n) (hi : (i, Ent.rows (dRows L) 1 32) ∈ H) (hg : (g, Ent.ext (grpO 3 (dGrp L))) ∈ H) :
    finK B (.tup [.os i m, .c (.int .i64 0)]) H S nx (DiagPostN w n (L.map Prod.snd) 0) := by
  subst hw0 hm
  refine fin_of fun ρ w' hw => ?_
  have hn1 := new_of_abs hw hb hi
  have hsh : dRows L = shRows (L.map dInt) := by simp [dRows, shRows, dRow, dInt, IntsV.val]
  rw [hsh] at hn1
  obtain ⟨base, cap, e, h1, h2⟩ : ∃ base cap, (SV.os i (shRows (L.map dInt)).length).rf ρ = .slice base (L.map dInt).length cap ∧ (L.map dInt).length ≤ cap ∧ (rowsA base 1 (shRows (L.map dInt))).holds (fun b => B.w0.heap.size ≤ b ∧ b < w'.heap.size) w' := by
    obtain ⟨base, cap, e, h1⟩ := newRows_data hn1
    obtain ⟨lc, e2, F, hF, hr, hcap, _⟩ := hn1
    rw [e2] at e
    simp only [Value.slice.injEq] at e
    obtain ⟨e3, _, e4⟩ := e
    refine ⟨base, cap, ?_, ?_, h1⟩
    · rw [e2, e3, e4, shRows_length]
    · rw [← e4]; simpa [shRows_length] using hcap
  have hlen : (shRows (L.map dInt)).length = m := by rw [shRows_length, List.length_map, hL.len]
  rw [hlen] at e
  refine ⟨⟨base, cap, L.map dInt⟩, ⟨⟨by simp [dInt], fun u hu => ?_, h1⟩, fun u hu => ?_⟩, ?_, ext_of_abs hw hb, h2, fun u hu => ?_⟩
  · obtain ⟨p, hp, rfl⟩ := List.mem_map.1 hu
    rcases hL.each p hp with ⟨e1, e2⟩ | ⟨_, e2, e3⟩
    · exact ⟨hf p hp, by simp [dInt, e2], by simp [dInt, e2]⟩
    · exact ⟨hf p hp, by simp [dInt, e2, e3], by simp [dInt, e2, hn]⟩
  · obtain ⟨p, hp, rfl⟩ := List.mem_map.1 hu
    rcases hL.each p hp with ⟨e1, e2⟩ | ⟨_, e2, e3⟩
    · exact .inl ⟨e2, by simp [dInt, e1]⟩
    · exact .inr e2
  · have : (SV.tup [.os i m, .c (.int .i64 0)]).rf ρ = .tuple #[(SV.os i m).rf ρ, .int .i64 0] := rfl
    rw [this, e]; rfl
  · obtain ⟨p, hp, rfl⟩ := List.mem_map.1 hu
    rcases hL.each p hp with ⟨e1, e2⟩ | ⟨⟨b, off, e1⟩, e2, e3⟩
    · show (rowsA (dInt p).base 1 (ints (dInt p).xs)).holds _ w'
      have : (dInt p).xs = [] := e2
      rw [this]
      exact ⟨fun r hr => (by cases hr), .inl rfl⟩
    · have hp' : ((p.1, p.2.map (Value.int .i64)) : Cell1) ∈ dGrp L := List.mem_map.2 ⟨p, hp, rfl⟩
      obtain ⟨g1, g2, g3⟩ := grp_new hw hb hg hp' e1
      refine ⟨ints_row, .inr ⟨b, off, e1, ⟨g1, g2⟩, fun k r hk j v hj => ?_⟩⟩
      have hkl : k < p.2.length := by
        have := (List.getElem?_eq_some_iff.1 hk).1
        rwa [ints_length] at this
      have hk' : (ints p.2)[k]? = some r := hk
      rw [ints_get hkl] at hk'
      obtain rfl : [Value.int .i64 p.2[k]] = r := by simpa using hk'
      have hj0 : j = 0 := by
        rcases Nat.eq_zero_or_pos j with h | h
        · exact h
        · rw [List.getElem?_eq_none (by show 1 ≤ j; exact h)] at hj; cases hj
      subst hj0
      have := g3 k (Value.int .i64 p.2[k]) (by simp [hkl])
      obtain rfl : Value.int .i64 p.2[k] = v := by simpa using hj
      simpa using this
end Go.Proofs.YtgndjjdeopfdkaaGreat

/- LQ -/
namespace Go.Proofs.YtgndjjdeopfdkaaGreat
open Go.RowKit Go.SX
instance (rows : List (List Int)) (fr to : List Int) (slots : Int) : Decidable (diagOk rows fr to slots) := by unfold diagOk; infer_instance
def diagL (rows : List (List Int)) (fr to : List Int) (slots : Int) : List (List Int) × Int := if diagOk rows fr to slots then (outerD slots.toNat rows fr to to.length, 0) else ([], 3)
theorem diag_fail2 {w : World} {B : Base} {H : Heap} {S : Asn} {nx : Nat} {rows : List (List Int)} {fr to : List Int} {slots : Int} (hno : ¬ diagOk rows fr to slots) (hb : ∀ R w', S.holds R w' → (baseA B.w0).holds R w') (hw0 : B.w0 = w) : finK B (.tup [.c (.slice none 0 0), .c (.int .i64 3)]) H S nx (DiagPostN w slots.toNat (diagL rows fr to slots).1 (diagL rows fr to slots).2) := by
  rw [diagL, if_neg hno]; exact diag_failN hb hw0
theorem containsOff_own {B : Base} {ρ : Nat → SX.Loc} {nx : Nat} {H : Heap} {S : Asn} {w : World} {T : TypeId} {fv : IntsV} (hw : Abs B ρ nx H S w) (he : (0, Ent.box [.c fv.val] T) ∈ H) (rv : ShapesV) (hr : rv.okB w) :
    Calls Tryz.prog 127 (SV.rfs ρ [.c rv.val, .fn (.func 128) [] [.lp 0 0 0 0]]).toArray w fun e w' => e = .returned (.bool (rv.l.any fun u => decide (u.xs.length ≠ fv.xs.length))) ∧ Ext w w' := by
  obtain ⟨R, φ, hw⟩ := hw
  obtain ⟨b, h1, h2, h3⟩ := hw.ent _ he
  simp only at h1
  have ha : (SV.rfs ρ [.c rv.val, .fn (.func 128) [] [.lp 0 0 0 0]]).toArray = #[rv.val, .func (.func 128) #[] #[.pointer (some ⟨b, 0, none⟩)]] := by
    simp [SV.rfs, SV.rf, h1, Addr.add]
  rw [ha]
  exact containsOff_any w rv hr ⟨b, 0, none⟩ fv.base fv.xs.length fv.cap (by simp [World.cell?, h3, SV.rfs, SV.rf, IntsV.val])
theorem off_all {l : List IntsV} {n : Nat} (h : (l.any fun u => decide (u.xs.length ≠ n)) = false) : ∀ r ∈ l.map IntsV.xs, r.length = n := by
  intro r hr
  obtain ⟨u, hu, rfl⟩ := List.mem_map.1 hr
  have := List.any_eq_false.1 h u hu
  simpa using this
theorem off_some {l : List IntsV} {n : Nat} (h : (l.any fun u => decide (u.xs.length ≠ n)) = true) (hall : ∀ r ∈ l.map IntsV.xs, r.length = n) : False := by
  obtain ⟨u, hu, hx⟩ := List.any_eq_true.1 h
  exact absurd (hall _ (List.mem_map.2 ⟨u, hu, rfl⟩)) (by simpa using hx)
theorem rem_is {x y z : Int} {K : Int → Prop} (h0 : 0 ≤ x) (hy : y ≠ 0) (e : x % y = z) (h : K z) : remK x y K := rem_pos h0 hy (by rw [e]; exact h)
theorem add_frame (b off k : Nat) : (⟨b, off, none⟩ : Addr).add (k * 1) = ⟨b, off + k, none⟩ := by simp [Addr.add]
theorem setD_fits {L : List DCell} {d : Nat} {p : DCell} (h : ∀ p ∈ L, ∀ x ∈ p.2, i64 x) (hp : ∀ x ∈ p.2, i64 x) : ∀ q ∈ L.set d p, ∀ x ∈ q.2, i64 x := fun q hq => by
  rcases List.mem_or_eq_of_mem_set hq with hq | hq
  · exact h q hq
  · rw [hq]; exact hp
theorem set_fits {l : List Int} {k : Nat} {x : Int} (h : ∀ y ∈ l, i64 y) (hx : i64 x) : ∀ y ∈ l.set k x, i64 y := fun y hy => by
  rcases List.mem_or_eq_of_mem_set hy with hy | hy
  · exact h y hy
  · rw [hy]; exact hx
theorem getD_fits {l : List Int} (h : ∀ y ∈ l, i64 y) (k : Nat) : i64 (l.getD k 0) := by
  rcases Nat.lt_or_ge k l.length with g | g
  · have e : l.getD k 0 = l[k] := by simp [List.getD, g]
    rw [e]; exact h _ (List.getElem_mem g)
  · have e : l.getD k 0 = 0 := by simp [List.getD, g]
    rw [e]; exact ⟨by decide, by decide⟩
theorem repl_set (n s : Nat) (x : Int) : (List.replicate n (Value.int .i64 0)).set s (.int .i64 x) = ((List.replicate n (0 : Int)).set s x).map (Value.int .i64) := by simp [List.map_set]
theorem ro_iv {a : Addr} {j : Nat} {S : Asn} {xs : List Int} {v : Int} {K : SV → Prop} (hx : ∀ R w, S.holds R w → RowsI w (some a) 1 (ints xs)) (hj : j < xs.length) (e : xs.getD j 0 = v) (h : K (.c (.int .i64 v))) : roK (a.add (j * 1)) S K := by
  subst e; exact ro_int hx hj h
theorem List.set_eq_self {α : Type} {l : List α} {d : Nat} {x : α} (h : l[d]? = some x) : l.set d x = l := by
  apply List.ext_getElem?
  intro i
  rw [List.getElem?_set]
  split
  · rename_i e; subst e; split
    · exact h.symm
    · rw [List.getElem?_eq_none (by omega)]
  · rfl
set_option maxHeartbeats 2000000 in
theorem diag_anyN (w : World) (rv : ShapesV) (hr : rv.okB w) (fv tv : IntsV) (hfv : fv.ok w) (htv : tv.ok w) (slots : Int) (hs : i64 slots) :
    Calls Tryz.prog 64 #[rv.val, fv.val, tv.val, .int .i64 slots] w (DiagPostN w slots.toNat (diagL (rv.l.map IntsV.xs) fv.xs tv.xs slots).1 (diagL (rv.l.map IntsV.xs) fv.xs tv.xs slots).2) := by
  have hr1 := hr.few
  have hf1 := hfv.few
  have ht1 := htv.few
  obtain ⟨hs1, hs2⟩ := hs
  have hrl : (rv.l.map IntsV.xs).length = rv.l.length := List.length_map _
  refine calls_of tab tabOk Tryz.func64 rfl rfl rfl [] (fun _ => ⟨none, 0⟩) [.c rv.val, .c fv.val, .c tv.val, .c (.int .i64 slots)] [] (baseA w) 0 rfl rfl (by show 4 ≤ _; decide) (abs_base w) ?_
  (repeat' ((conv => whnf) <;> first | (show callK _ 126 [.c fv.val, .c (.int .i64 slots)] _ _ _ _; refine call_bool (f := 126) Tryz.call126 _ (fun ρ w' hw => places_any w' fv (holds_of_abs hw fun R h => hfv.later h) slots) (fun hp1 => ?_) (fun hp1 => ?_)) | (show callK _ 126 [.c tv.val, .c (.int .i64 slots)] _ _ _ _; refine call_bool (f := 126) Tryz.call126 _ (fun ρ w' hw => places_any w' tv (holds_of_abs hw fun R h => htv.later h) slots) (fun hp2 => ?_) (fun hp2 => ?_)) | (show callK _ 127 _ _ _ _ _; (refine call_bool (f := 127) Tryz.call127 _ (fun ρ w' hw => containsOff_own (fv := fv) hw (by repeat (first | exact List.mem_cons_self | apply List.mem_cons_of_mem)) rv (holds_of_abs hw fun R h => hr.later h)) (fun hp3 => ?_) (fun hp3 => ?_))) | (show makeK _ _ _ _; (refine make_of slots.toNat (by omega) (by omega) (by show 24 * _ ≤ _; omega) (by omega) ?_)) | (show Wp _ _ _ _ _ _ _; refine Wp.go tabOk rfl ?_) | (show @cmpK _ _ _; (first | refine cmpY ?_ | refine cmpN ?_ | (refine cmp_both ?_ ?_ <;> intro _))) | (show wrapK _ _ _; refine wrapA ?_) | (show leK _ _ _; refine leA ?_) | (show roomK _ _ _; refine roomA ?_) | (show ltK _ _ _; refine ltA ?_) | (show _ ∧ _; refine ⟨?_, ?_⟩) | (show keepK _ _ _ _ _; refine keepA ?_) | refine own_keep ?_ | refine ap_old ?_))
  all_goals (conv => whnf)
  all_goals first | exact diag_fail2 (fun h => by have := h.1; have := h.2.1; have := h.2.2.1; omega) (fun _ _ h => h) rfl | exact diag_fail2 (fun h => Bool.false_ne_true (hp1.symm.trans h.2.2.2.1)) (fun _ _ h => h) rfl | exact diag_fail2 (fun h => Bool.false_ne_true (hp2.symm.trans h.2.2.2.2.1)) (fun _ _ h => h) rfl | exact diag_fail2 (fun h => off_some hp3 h.2.2.2.2.2) (fun _ _ h => h) rfl | skip
  have hok : diagOk (rv.l.map IntsV.xs) fv.xs tv.xs slots := ⟨by omega, by omega, by omega, hp1, hp2, off_all hp3⟩
  rw [diagL, if_pos hok]
  obtain ⟨n, hn⟩ : ∃ n : Nat, slots = n := ⟨slots.toNat, by omega⟩
  subst hn
  rw [Int.toNat_natCast]
  have hfr := (placesL_of hp1).1
  have hto := (placesL_of hp2).1
  refine Wp.grp 3 n ?_
  refine Wp.loop (σ := Nat × List DCell) 3 (fun s => [(0, .c rv.val), (3, .c (.int .i64 n)), (5, .lp 0 0 0 0), (10, .os 1 n), (49, .c tv.val), (50, .c (.int .i64 tv.xs.length)), (51, .c (.int .i64 s.1))])
    (fun s => [(0, .box [.c fv.val] 32), (1, .rows (dRows s.2) 1 32), (2, .ext (grpO 3 (dGrp s.2)))]) (fun _ => baseA w)
    (fun s => DOk n s.2 ∧ (∀ p ∈ s.2, ∀ x ∈ p.2, i64 x) ∧ s.2.map Prod.snd = outerD n (rv.l.map IntsV.xs) fv.xs tv.xs s.1 ∧ s.1 ≤ tv.xs.length) (fun s => tv.xs.length - s.1) (0, nilD n) [] (by decide) (fun s => ⟨rfl, rfl⟩)
    ⟨nilD_ok n, (fun p hp x hx => by rw [(List.mem_replicate.1 hp).2] at hx; cases hx), by rw [nilD_snd]; rfl, Nat.zero_le _⟩ ⟨rfl, ⟨rfl, rfl, rfl, rfl, rfl, rfl, rfl, trivial⟩, ?_, fun _ _ h => h⟩ ?_
  · show heapInto [] _ [(0, .box [.c fv.val] 32), (1, .rows (dRows (nilD n)) 1 32), (2, .ext (grpO 3 (dGrp (nilD n))))]
    rw [dRows_nil, dGrp_nil]
    exact ⟨(by repeat (first | exact List.mem_cons_self | apply List.mem_cons_of_mem)), (by repeat (first | exact List.mem_cons_self | apply List.mem_cons_of_mem)), (by repeat (first | exact List.mem_cons_self | apply List.mem_cons_of_mem)), trivial⟩
  rintro ⟨o, L⟩ ⟨hL, hLf, hLs, hol⟩
  dsimp only at hL hLf hLs hol
  by_cases hlt : o < tv.xs.length
  · obtain ⟨ta, hta⟩ := htv.base (by omega)
    have htr : ∀ (R : Nat → Prop) w', (baseA w).holds R w' → RowsI w' (some ta) 1 (ints tv.xs) := fun R w' h => by rw [← hta]; exact rows_base h htv.rows
    have hrlt : o < rv.l.length := by omega
    have hsb : 0 ≤ tv.xs.getD o 0 ∧ tv.xs.getD o 0 < n := by
      have e : tv.xs.getD o 0 = tv.xs[o] := by simp [List.getD, hlt]
      rw [e]; exact hto _ (List.getElem_mem hlt)
    obtain ⟨sv, hsv⟩ : ∃ sv, tv.xs.getD o 0 = sv := ⟨_, rfl⟩
    (repeat' ((conv => whnf) <;> first | (show idxK _ _ _ _ _; refine idx_of ta o hta rfl hlt ?_) | (show roK _ _ _; refine ro_int htr (j := o) hlt ?_) | (show Wp _ _ _ _ _ _ _; refine Wp.go tabOk rfl ?_) | (show @cmpK _ _ _; (first | refine cmpY ?_ | refine cmpN ?_ | (refine cmp_both ?_ ?_ <;> intro _))) | (show wrapK _ _ _; refine wrapA ?_) | (show leK _ _ _; refine leA ?_) | (show roomK _ _ _; refine roomA ?_) | (show ltK _ _ _; refine ltA ?_) | (show _ ∧ _; refine ⟨?_, ?_⟩) | (show keepK _ _ _ _ _; refine keepA ?_) | refine own_keep ?_ | refine ap_old ?_))
    all_goals (conv => whnf)
    have hrow : (rv.l.map IntsV.xs).getD o [] = rv.l[o].xs := by simp [List.getD, hrlt]
    have hrlen : rv.l[o].xs.length = fv.xs.length := off_all hp3 _ (List.mem_map.2 ⟨_, List.getElem_mem hrlt, rfl⟩)
    have hro := hr.each rv.l[o] (List.getElem_mem hrlt)
    obtain ⟨ra, hra⟩ : ∃ a, rv.base = some a := base_some (j := o) hr.rows (by rw [shRows_length]; exact hrlt)
    rw [hsv] at hsb ⊢
    refine Wp.loop (σ := Nat × List DCell) 3 (fun s => [(0, .c rv.val), (3, .c (.int .i64 n)), (5, .lp 0 0 0 0), (10, .os 1 n), (49, .c tv.val), (50, .c (.int .i64 tv.xs.length)), (51, .c (.int .i64 o)), (11, .c (.int .i64 o)), (12, .c (.int .i64 sv)), (56, .c fv.val), (57, .c (.int .i64 fv.xs.length)), (58, .c (.int .i64 s.1))])
      (fun s => [(0, .box [.c fv.val] 32), (1, .rows (dRows s.2) 1 32), (2, .ext (grpO 3 (dGrp s.2)))]) (fun _ => baseA w)
      (fun s => DOk n s.2 ∧ (∀ p ∈ s.2, ∀ x ∈ p.2, i64 x) ∧ s.2.map Prod.snd = innerD n fv.xs rv.l[o].xs sv (outerD n (rv.l.map IntsV.xs) fv.xs tv.xs o) s.1 ∧ s.1 ≤ fv.xs.length) (fun s => fv.xs.length - s.1) (0, L) [] (by decide) (fun s => ⟨rfl, rfl⟩)
      ⟨hL, hLf, hLs, Nat.zero_le _⟩ ⟨rfl, ⟨rfl, rfl, rfl, rfl, rfl, rfl, rfl, rfl, rfl, rfl, rfl, rfl, trivial⟩, ⟨(by repeat (first | exact List.mem_cons_self | apply List.mem_cons_of_mem)), (by repeat (first | exact List.mem_cons_self | apply List.mem_cons_of_mem)), (by repeat (first | exact List.mem_cons_self | apply List.mem_cons_of_mem)), trivial⟩, fun _ _ h => h⟩ ?_
    clear hL hLf hLs
    rintro ⟨i, M⟩ ⟨hM, hMf, hMs, hil⟩
    dsimp only at hM hMf hMs hil
    by_cases hli : i < fv.xs.length
    · obtain ⟨fa, hfa⟩ := hfv.base (by omega)
      have hfr' : ∀ (R : Nat → Prop) w', (baseA w).holds R w' → RowsI w' (some fa) 1 (ints fv.xs) := fun R w' h => by rw [← hfa]; exact rows_base h hfv.rows
      obtain ⟨wa, hwa⟩ := hro.base (by omega)
      have hwr : ∀ (R : Nat → Prop) w', (baseA w).holds R w' → RowsI w' (some wa) 1 (ints rv.l[o].xs) := fun R w' h => by rw [← hwa]; exact rows_base h hro.rows
      have hfb : 0 ≤ fv.xs.getD i 0 ∧ fv.xs.getD i 0 < n := by
        have e : fv.xs.getD i 0 = fv.xs[i] := by simp [List.getD, hli]
        rw [e]; exact hfr _ (List.getElem_mem hli)
      have hwf := getD_fits hro.fits i
      have hstep := innerD_succ n fv.xs rv.l[o].xs sv (outerD n (rv.l.map IntsV.xs) fv.xs tv.xs o) i
      rw [← hMs] at hstep
      obtain ⟨fi, hfi⟩ : ∃ x, fv.xs.getD i 0 = x := ⟨_, rfl⟩
      obtain ⟨wi, hwi⟩ : ∃ x, rv.l[o].xs.getD i 0 = x := ⟨_, rfl⟩
      rw [hfi] at hfb hstep
      rw [hwi] at hwf hstep
      by_cases hw0 : wi = 0
      · (repeat' ((conv => whnf) <;> first | (show idxK _ _ _ _ _; (first | refine idx_of fa i hfa rfl hli ?_ | refine idx_of ra o hra rfl hrlt ?_ | refine idx_of wa i hwa rfl (by omega) ?_)) | (show roK _ _ _; (first | refine ro_iv hfr' (j := i) hli hfi ?_ | refine ro_row0 (fun R w' h => by rw [← hra]; exact rows_base h hr.rows) _ _ (shRows_get hrlt) rfl ?_ | refine ro_iv hwr (j := i) (by omega) hwi ?_)) | (show Wp _ _ _ _ _ _ _; refine Wp.go tabOk rfl ?_) | (show @cmpK _ _ _; (first | refine cmpY ?_ | refine cmpN ?_ | (refine cmp_both ?_ ?_ <;> intro _))) | (show wrapK _ _ _; refine wrapA ?_) | (show leK _ _ _; refine leA ?_) | (show roomK _ _ _; refine roomA ?_) | (show ltK _ _ _; refine ltA ?_) | (show _ ∧ _; refine ⟨?_, ?_⟩) | (show keepK _ _ _ _ _; refine keepA ?_) | refine own_keep ?_ | refine ap_old ?_))
        all_goals (conv => whnf)
        exact ⟨(i + 1, M), [], ⟨hM, hMf, by rw [hstep, stepPD, if_pos hw0], hli⟩, by show fv.xs.length - (i + 1) < fv.xs.length - i; omega, rfl, ⟨rfl, rfl, rfl, rfl, rfl, rfl, rfl, rfl, rfl, rfl, rfl, rfl, trivial⟩, ⟨(by repeat (first | exact List.mem_cons_self | apply List.mem_cons_of_mem)), (by repeat (first | exact List.mem_cons_self | apply List.mem_cons_of_mem)), (by repeat (first | exact List.mem_cons_self | apply List.mem_cons_of_mem)), trivial⟩, fun _ _ h => h⟩
      · obtain ⟨d, hdd, hdn, hd0⟩ := dpos hsb hfb
        have hMd : d < M.length := by rw [hM.len]; exact hdn
        have hdl := dRows_length M
        obtain ⟨q, hq⟩ : ∃ q, M[d]? = some q := ⟨_, List.getElem?_eq_getElem hMd⟩
        have hqm := List.mem_of_getElem? hq
        obtain ⟨sn, hsn⟩ : ∃ k : Nat, sv = k := ⟨sv.toNat, by omega⟩
        have hsn2 : sv.toNat = sn := by omega
        rcases hM.each q hqm with ⟨e1, e2⟩ | ⟨⟨b, off, e1⟩, e2, e3⟩
        · obtain ⟨ql, qv⟩ := q
          simp only at e1 e2
          subst e1 e2
          (repeat' ((conv => whnf) <;> first | (show idxK _ _ _ _ _; (first | refine idx_of fa i hfa rfl hli ?_ | refine idx_of ra o hra rfl hrlt ?_ | refine idx_of wa i hwa rfl (by omega) ?_)) | (show roK _ _ _; (first | refine ro_iv hfr' (j := i) hli hfi ?_ | refine ro_row0 (fun R w' h => by rw [← hra]; exact rows_base h hr.rows) _ _ (shRows_get hrlt) rfl ?_ | refine ro_iv hwr (j := i) (by omega) hwi ?_)) | (show remK _ _ _; refine rem_is hd0 (by omega) hdd ?_) | (show idxRowK _ _ _ _ _ _; refine idxRow_of d rfl hdn (Nat.le_of_eq (hdl.trans hM.len).symm) ?_) | (show rowK _ _ _ _; refine row_of _ _ (dRows_get hq) rfl ?_) | (show pureK _ _ _; refine nil_yes (ti 32 rfl) rfl ?_) | (show makeK _ _ _ _; (refine make_of n rfl rfl (by show 8 * _ ≤ _; omega) (by omega) ?_)) | (show Wp _ _ _ _ _ _ _; refine Wp.go tabOk rfl ?_) | (show @cmpK _ _ _; (first | refine cmpY ?_ | refine cmpN ?_ | (refine cmp_both ?_ ?_ <;> intro _))) | (show wrapK _ _ _; refine wrapA ?_) | (show leK _ _ _; refine leA ?_) | (show roomK _ _ _; refine roomA ?_) | (show ltK _ _ _; refine ltA ?_) | (show _ ∧ _; refine ⟨?_, ?_⟩) | (show keepK _ _ _ _ _; refine keepA ?_) | refine ap_old ?_))
          all_goals (conv => whnf)
          refine own_group (g := 2) (d := d) (us := []) (l0 := ⟨none, 0⟩) (L := dGrp M) (vs := List.replicate n (.int .i64 0)) (by repeat (first | exact List.mem_cons_self | apply List.mem_cons_of_mem)) (dGrp_get hq) rfl rfl (by rw [oneRows, List.map_replicate]) (by rw [List.length_replicate]; omega) (fun l hlc hlb => ?_)
          rw [List.length_replicate] at hlc
          obtain ⟨b, off, hlb⟩ := hlb
          have hset : ((dRows M).set d [.slice l.base n l.cap])[d]? = some [.slice l.base n l.cap] := List.getElem?_set_self (by rw [hdl]; exact hMd)
          have hgs : ((dGrp M).set d (l, List.replicate n (.int .i64 0)))[d]? = some (l, List.replicate n (.int .i64 0)) := List.getElem?_set_self (by rw [dGrp, List.length_map]; exact hMd)
          (repeat' ((conv => whnf) <;> first | (show rowStoreK _ _ _ _ _; (refine rowStore_of _ (dRows_get hq) (by show 0 + 1 ≤ 1; omega) ?_)) | (show idxRowK _ _ _ _ _ _; (first | refine idxRow_of d rfl hdn (Nat.le_of_eq (hdl.trans hM.len).symm) ?_ | refine idxRow_of d rfl hdn (Nat.le_of_eq (by rw [List.length_set]; exact (hdl.trans hM.len).symm)) ?_)) | (show rowK _ _ _ _; refine row_of _ _ hset rfl ?_) | (show idxK _ _ _ _ _; refine idx_of ⟨b, off, none⟩ sn hlb hsn (by omega) ?_) | (show wrK _ _ _ _ _; (refine wr_group (g := 2) (d := d) (s := sn) (l := l) (vs := List.replicate n (.int .i64 0)) (by repeat (first | exact List.mem_cons_self | apply List.mem_cons_of_mem)) hgs hlb (by rw [List.length_replicate]; omega) (add_frame b off sn) ?_)) | (show Wp _ _ _ _ _ _ _; refine Wp.go tabOk rfl ?_) | (show @cmpK _ _ _; (first | refine cmpY ?_ | refine cmpN ?_ | (refine cmp_both ?_ ?_ <;> intro _))) | (show wrapK _ _ _; refine wrapA ?_) | (show leK _ _ _; refine leA ?_) | (show roomK _ _ _; refine roomA ?_) | (show ltK _ _ _; refine ltA ?_) | (show _ ∧ _; refine ⟨?_, ?_⟩) | (show keepK _ _ _ _ _; refine keepA ?_) | refine own_keep ?_ | refine ap_old ?_))
          all_goals (conv => whnf)
          have eg : dGrp (M.set d (l, (List.replicate n 0).set sn wi)) = ((dGrp M).set d (l, List.replicate n (.int .i64 0))).set d (l, (List.replicate n (Value.int .i64 0)).set sn (.int .i64 wi)) := by rw [dGrp_set, List.set_set, repl_set]
          have er : dRows (M.set d (l, (List.replicate n 0).set sn wi)) = (dRows M).set d [.slice l.base n l.cap] := by rw [dRows_set]; simp [dRow, List.length_replicate]
          have hlenV : ((l, (List.replicate n 0).set sn wi) : DCell).2.length = n := by simp [List.length_replicate]
          refine ⟨(i + 1, M.set d (l, (List.replicate n 0).set sn wi)), [], ⟨hM.set (.inr ⟨⟨b, off, hlb⟩, hlenV, hlc⟩), setD_fits hMf (set_fits (fun y hy => by rw [(List.mem_replicate.1 hy).2]; exact ⟨by decide, by decide⟩) hwf), by rw [hstep]; rw [← step_new hq rfl hw0 hdd, hsn2], hli⟩, by show fv.xs.length - (i + 1) < fv.xs.length - i; omega, rfl, ⟨rfl, rfl, rfl, rfl, rfl, rfl, rfl, rfl, rfl, rfl, rfl, rfl, trivial⟩, ?_, fun _ _ h => h⟩
          show heapInto [] _ [(0, .box [.c fv.val] 32), (1, .rows (dRows (M.set d (l, (List.replicate n 0).set sn wi))) 1 32), (2, .ext (grpO 3 (dGrp (M.set d (l, (List.replicate n 0).set sn wi)))))]
          rw [eg, er]
          exact ⟨(by repeat (first | exact List.mem_cons_self | apply List.mem_cons_of_mem)), (by repeat (first | exact List.mem_cons_self | apply List.mem_cons_of_mem)), (by repeat (first | exact List.mem_cons_self | apply List.mem_cons_of_mem)), trivial⟩
        · obtain ⟨ql, qv⟩ := q
          simp only at e1 e2 e3
          (repeat' ((conv => whnf) <;> first | (show idxK _ _ _ _ _; (first | refine idx_of fa i hfa rfl hli ?_ | refine idx_of ra o hra rfl hrlt ?_ | refine idx_of wa i hwa rfl (by omega) ?_ | refine idx_of ⟨b, off, none⟩ sn e1 hsn (show sn < qv.length by omega) ?_)) | (show roK _ _ _; (first | refine ro_iv hfr' (j := i) hli hfi ?_ | refine ro_row0 (fun R w' h => by rw [← hra]; exact rows_base h hr.rows) _ _ (shRows_get hrlt) rfl ?_ | refine ro_iv hwr (j := i) (by omega) hwi ?_)) | (show remK _ _ _; refine rem_is hd0 (by omega) hdd ?_) | (show idxRowK _ _ _ _ _ _; refine idxRow_of d rfl hdn (Nat.le_of_eq (hdl.trans hM.len).symm) ?_) | (show rowK _ _ _ _; refine row_of _ _ (dRows_get hq) rfl ?_) | (show pureK _ _ _; refine nil_no (ti 32 rfl) rfl e1 ?_) | (show wrK _ _ _ _ _; (refine wr_group (g := 2) (d := d) (s := sn) (l := ql) (vs := qv.map (Value.int .i64)) (by repeat (first | exact List.mem_cons_self | apply List.mem_cons_of_mem)) (dGrp_get hq) e1 (by rw [List.length_map]; omega) (add_frame b off sn) ?_)) | (show Wp _ _ _ _ _ _ _; refine Wp.go tabOk rfl ?_) | (show @cmpK _ _ _; (first | refine cmpY ?_ | refine cmpN ?_ | (refine cmp_both ?_ ?_ <;> intro _))) | (show wrapK _ _ _; refine wrapA ?_) | (show leK _ _ _; refine leA ?_) | (show roomK _ _ _; refine roomA ?_) | (show ltK _ _ _; refine ltA ?_) | (show _ ∧ _; refine ⟨?_, ?_⟩) | (show keepK _ _ _ _ _; refine keepA ?_) | refine own_keep ?_ | refine ap_old ?_))
          all_goals (conv => whnf)
          have eg : dGrp (M.set d (ql, qv.set sn wi)) = (dGrp M).set d (ql, (qv.map (Value.int .i64)).set sn (.int .i64 wi)) := by rw [dGrp_set, List.map_set]
          have er : dRows (M.set d (ql, qv.set sn wi)) = (dRows M).set d [.slice ql.base n ql.cap] := by rw [dRows_set]; simp [dRow, e2]
          have hlenV : ((ql, qv.set sn wi) : DCell).2.length = n := by simp [e2]
          refine ⟨(i + 1, M.set d (ql, qv.set sn wi)), [], ⟨hM.set (.inr ⟨⟨b, off, e1⟩, hlenV, e3⟩), setD_fits hMf (set_fits (hMf _ hqm) hwf), by rw [hstep]; rw [← step_old hq (fun h0 => by have := congrArg List.length h0; simp only [List.length_nil] at this; omega) hw0 hdd, hsn2], hli⟩, by show fv.xs.length - (i + 1) < fv.xs.length - i; omega, rfl, ⟨rfl, rfl, rfl, rfl, rfl, rfl, rfl, rfl, rfl, rfl, rfl, rfl, trivial⟩, ?_, fun _ _ h => h⟩
          show heapInto [] _ [(0, .box [.c fv.val] 32), (1, .rows (dRows (M.set d (ql, qv.set sn wi))) 1 32), (2, .ext (grpO 3 (dGrp (M.set d (ql, qv.set sn wi)))))]
          rw [eg, er, show (dRows M).set d [.slice ql.base n ql.cap] = dRows M from ?_]
          exact ⟨(by repeat (first | exact List.mem_cons_self | apply List.mem_cons_of_mem)), (by repeat (first | exact List.mem_cons_self | apply List.mem_cons_of_mem)), (by repeat (first | exact List.mem_cons_self | apply List.mem_cons_of_mem)), trivial⟩
          rw [← e2, show [Value.slice ql.base qv.length ql.cap] = dRow (ql, qv) from rfl, ← dRows_set, List.set_eq_self hq]
    · (repeat' ((conv => whnf) <;> first | (show Wp _ _ _ _ _ _ _; refine Wp.go tabOk rfl ?_) | (show @cmpK _ _ _; (first | refine cmpY ?_ | refine cmpN ?_ | (refine cmp_both ?_ ?_ <;> intro _))) | (show wrapK _ _ _; refine wrapA ?_) | (show leK _ _ _; refine leA ?_) | (show roomK _ _ _; refine roomA ?_) | (show ltK _ _ _; refine ltA ?_) | (show _ ∧ _; refine ⟨?_, ?_⟩) | (show keepK _ _ _ _ _; refine keepA ?_) | refine own_keep ?_ | refine ap_old ?_))
      all_goals (conv => whnf)
      obtain rfl : i = fv.xs.length := by omega
      exact ⟨(o + 1, M), [], ⟨hM, hMf, by rw [hMs, outerD_succ, hrow, hsv], hlt⟩, by show tv.xs.length - (o + 1) < tv.xs.length - o; omega, rfl, ⟨rfl, rfl, rfl, rfl, rfl, rfl, rfl, trivial⟩, ⟨(by repeat (first | exact List.mem_cons_self | apply List.mem_cons_of_mem)), (by repeat (first | exact List.mem_cons_self | apply List.mem_cons_of_mem)), (by repeat (first | exact List.mem_cons_self | apply List.mem_cons_of_mem)), trivial⟩, fun _ _ h => h⟩
  · (repeat' ((conv => whnf) <;> first | (show Wp _ _ _ _ _ _ _; refine Wp.go tabOk rfl ?_) | (show @cmpK _ _ _; (first | refine cmpY ?_ | refine cmpN ?_ | (refine cmp_both ?_ ?_ <;> intro _))) | (show wrapK _ _ _; refine wrapA ?_) | (show leK _ _ _; refine leA ?_) | (show roomK _ _ _; refine roomA ?_) | (show ltK _ _ _; refine ltA ?_) | (show _ ∧ _; refine ⟨?_, ?_⟩) | (show keepK _ _ _ _ _; refine keepA ?_) | refine own_keep ?_ | refine ap_old ?_))
    all_goals (conv => whnf)
    obtain rfl : o = tv.xs.length := by omega
    have := diag_end (w := w) (B := ⟨w, []⟩) (H := [(0, .box [.c fv.val] 32), (1, .rows (dRows L) 1 32), (2, .ext (grpO 3 (dGrp L)))]) (S := baseA w) (nx := 3) (i := 1) (g := 2) (n := n) (m := n) (fun _ _ h => h) rfl hL hLf (by omega) rfl (by repeat (first | exact List.mem_cons_self | apply List.mem_cons_of_mem)) (by repeat (first | exact List.mem_cons_self | apply List.mem_cons_of_mem))
    rw [hLs] at this
    exact this
end Go.Proofs.YtgndjjdeopfdkaaGreat

/- QK -/
namespace Go.Proofs.YtgndjjdeopfdkaaGreat
open Go.SX Go.RowKit
theorem rowsI_cutG {w : World} {base : Option Addr} {cap : Nat} {xs : List (List Value)} (l m : Nat) (hc : xs.length ≤ cap) (h : RowsI w base 1 xs) : RowsI w (if cap = l then base else base.map (·.add (l * 1))) 1 ((xs.drop l).take m) := by
  by_cases hl : cap ≤ l
  · rw [List.drop_eq_nil_of_le (by omega), List.take_nil]
    exact .inl rfl
  rw [if_neg (by omega)]
  rcases h with h | ⟨a, rfl, h⟩
  · subst h; rw [List.drop_nil, List.take_nil]; exact .inl rfl
  · refine .inr ⟨_, rfl, fun k r hk j v hj => ?_⟩
    rw [List.getElem?_take] at hk
    split at hk
    · rw [List.getElem?_drop] at hk
      have := h (l + k) r hk j v hj
      rw [Addr.add_add]
      rw [show l * 1 + (k * 1 + j) = (l + k) * 1 + j by omega]
      exact this
    · cases hk
def cutV (u : IntsV) (l h : Nat) : IntsV := ⟨if u.cap = l then u.base else u.base.map (·.add (l * 1)), u.cap - l, (u.xs.drop l).take (h - l)⟩
theorem cutV_length {u : IntsV} {l h : Nat} (h2 : h ≤ u.xs.length) : (cutV u l h).xs.length = h - l := by
  show ((u.xs.drop l).take (h - l)).length = _
  rw [List.length_take, List.length_drop]; omega
theorem slice_cutV {u : IntsV} {l h : Nat} {lo hi : Option Int} {K : SV → Prop} (hlo : match lo with | some z => z = l | none => l = 0) (hhi : match hi with | some z => z = h | none => h = u.xs.length) (h1 : l ≤ h) (h2 : h ≤ u.xs.length) (h3 : u.xs.length ≤ u.cap) (hk : K (.c (cutV u l h).val)) : sliceK u.base u.xs.length u.cap 1 lo hi none K := by
  rw [sliceK_def]
  refine ⟨l, h, u.cap, hlo, hhi, rfl, h1, by omega, Nat.le_refl _, fun h => (by cases h), ?_⟩
  have e : (cutV u l h).val = .slice (if u.cap = l then u.base else u.base.map (·.add (l * 1))) (h - l) (u.cap - l) := by
    show Value.slice _ _ _ = _
    rw [cutV_length h2]; rfl
  rw [← e]; exact hk
theorem cutV_rows {u : IntsV} {l h : Nat} {w : World} (hr : RowsI w u.base 1 (ints u.xs)) (h3 : u.xs.length ≤ u.cap) : RowsI w (cutV u l h).base 1 (ints (cutV u l h).xs) := by
  have := rowsI_cutG l (h - l) (by rw [ints_length]; exact h3) hr
  rwa [show ((ints u.xs).drop l).take (h - l) = ints ((u.xs.drop l).take (h - l)) by simp [ints, List.map_drop, List.map_take]] at this
theorem cutV_sane {u : IntsV} {l h : Nat} (hu : u.sane) : (cutV u l h).sane := by
  refine ⟨fun x hx => hu.fits x (List.mem_of_mem_drop (List.mem_of_mem_take hx)), ?_, ?_⟩
  · have := hu.room
    show ((u.xs.drop l).take (h - l)).length ≤ u.cap - l
    rw [List.length_take, List.length_drop]; omega
  · have := hu.few
    show ((u.xs.drop l).take (h - l)).length ≤ _
    rw [List.length_take, List.length_drop]; omega
def cutS (d : ShapesV) (l h : Nat) : ShapesV := ⟨if d.cap = l then d.base else d.base.map (·.add (l * 1)), d.cap - l, (d.l.drop l).take (h - l)⟩
theorem cutS_length {u : ShapesV} {l h : Nat} (h2 : h ≤ u.l.length) : (cutS u l h).l.length = h - l := by
  show ((u.l.drop l).take (h - l)).length = _
  rw [List.length_take, List.length_drop]; omega
theorem slice_cutS {u : ShapesV} {l h : Nat} {lo hi : Option Int} {K : SV → Prop} (hlo : match lo with | some z => z = l | none => l = 0) (hhi : match hi with | some z => z = h | none => h = u.l.length) (h1 : l ≤ h) (h2 : h ≤ u.l.length) (h3 : u.l.length ≤ u.cap) (hk : K (.c (cutS u l h).val)) : sliceK u.base u.l.length u.cap 1 lo hi none K := by
  rw [sliceK_def]
  refine ⟨l, h, u.cap, hlo, hhi, rfl, h1, by omega, Nat.le_refl _, fun h => (by cases h), ?_⟩
  have e : (cutS u l h).val = .slice (if u.cap = l then u.base else u.base.map (·.add (l * 1))) (h - l) (u.cap - l) := by
    show Value.slice _ _ _ = _
    rw [cutS_length h2]; rfl
  rw [← e]; exact hk
theorem cutS_rows {u : ShapesV} {l h : Nat} {w : World} (hr : RowsI w u.base 1 (shRows u.l)) (h3 : u.l.length ≤ u.cap) : RowsI w (cutS u l h).base 1 (shRows (cutS u l h).l) := by
  have := rowsI_cutG l (h - l) (by rw [shRows_length]; exact h3) hr
  rwa [show ((shRows u.l).drop l).take (h - l) = shRows ((u.l.drop l).take (h - l)) by simp [shRows, List.map_drop, List.map_take]] at this
theorem call_own {cx : Cx} {f : FuncId} {args : List SV} {H : Heap} {S : Asn} {nx : Nat} {K : SV → Heap → Asn → Nat → Prop} (hk : callK cx f args H S nx (fun v H S nx => ownK v H S nx K)) : callK cx f args H S nx K := by
  rw [callK_def] at hk ⊢
  refine ⟨hk.1, fun ρ w hw => (hk.2 ρ w hw).mono ?_⟩
  rintro e w' ⟨v, ρ', H', S', nx', h1, h2, h3, h4, h5, h6⟩
  obtain ⟨v2, H2, S2, g1, g2, g3, g4⟩ := own_sound h6 h5 h4
  exact ⟨v2, ρ', H2, S2, nx', by rw [g1]; exact h1, h2, h3, g2, g3, g4⟩
theorem concat_rows (w : World) (base : Option Addr) (cap : Nat) (u v : IntsV) (hr : RowsI w base 1 [[u.val], [v.val]]) (hu : u.ok w) (hv : v.ok w) (h0 : 0 < u.xs.length + v.xs.length) :
    Calls Tryz.prog 129 #[.slice base 2 cap] w fun e w' => ∃ x, e = .returned x ∧ Ext w w' ∧ NewRows w w' x 1 3 (ints (u.xs ++ v.xs)) := by
  obtain ⟨a, rfl⟩ := base_some (j := 0) hr (by show 0 < 2; decide)
  exact concat_any w a cap u v hr hu hv h0
/-- two rows joined, as data -/
theorem call_concat {cx : Cx} (hP : cx.P = Tryz.prog) {j : Nat} {T : TypeId} {H : Heap} {S : Asn} {nx : Nat} {K : SV → Heap → Asn → Nat → Prop} (u v : IntsV) (G : Nat → Prop) (hG : ∀ R w, S.holds R w → ∀ b, G b → R b) (hu : ∀ R w, S.holds R w → RowsI w u.base 1 (ints u.xs)) (hv : ∀ R w, S.holds R w → RowsI w v.base 1 (ints v.xs)) (hus : u.sane) (hvs : v.sane) (h0 : 0 < u.xs.length + v.xs.length) (hl : u.xs.length + v.xs.length ≤ 1000000)
    (h : ∀ m : IntsV, m.xs = u.xs ++ v.xs → m.sane → K (.c m.val) H (S.and ((intsA m).off G)) (nx + 1)) : callK cx 129 [.os j 2] ((j, .rows [[u.val], [v.val]] 1 T) :: H) S nx K := by
  obtain ⟨P, B, n, tab⟩ := cx
  subst hP
  refine call_own ?_
  refine call_sub (K' := fun x H' S' nx' => x = .os nx (ints (u.xs ++ v.xs)).length ∧ H' = (nx, .rows (ints (u.xs ++ v.xs)) 1 3) :: (j, .rows [[u.val], [v.val]] 1 T) :: H ∧ S' = S ∧ nx' = nx + 1) (call_new (f := 129) Tryz.call129 1 3 (fun _ : Unit => ints (u.xs ++ v.xs)) (fun _ => True) (fun ρ w' hw => ?_) (fun _ _ => ⟨rfl, rfl, rfl, rfl⟩)) ?_
  · have hr := rows_of_abs hw (i := j) (xs := [[u.val], [v.val]]) (k := 1) (T := T) List.mem_cons_self
    exact (concat_rows w' _ _ u v hr ⟨holds_of_abs hw fun R h => hu R _ h, hus.fits, hus.room, hus.few⟩ ⟨holds_of_abs hw fun R h => hv R _ h, hvs.fits, hvs.room, hvs.few⟩ h0).mono (fun e w2 h => ⟨(), trivial, h⟩)
  · rintro x H' S' nx' ⟨rfl, rfl, rfl, rfl⟩
    refine ⟨_, List.Sublist.cons_cons _ (List.sublist_cons_self _ _), ?_⟩
    rw [ints_length]
    exact freeze_off (u.xs ++ v.xs) G hG rfl rfl (fun x hx => (List.mem_append.1 hx).elim (hus.fits x) (hvs.fits x)) (by rw [List.length_append]; exact hl) (fun m hm hms => h m hm hms)
def mapT (t : Int → Option Int) : Int → Option Value := fun z => (t z).map (Value.int .i64)
theorem mapT_start (x : Int) : mapPut (fun _ => none) 0 (.int .i64 x) = mapT (startT x) := by
  funext z
  unfold mapPut mapT startT
  split <;> rfl
theorem mapT_put (t : Int → Option Int) (k v : Int) : mapPut (mapT t) k (.int .i64 v) = mapT (fun z => if z = k then some v else t z) := by
  funext z
  unfold mapPut mapT
  by_cases h : z = k
  · simp [h]
  · simp [h]
end Go.Proofs.YtgndjjdeopfdkaaGreat

