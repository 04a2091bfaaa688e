import Derived.DeepKeys
import Derived.Test.YtdmkdogakbipbaaKIntervalSums9
/- II -/
namespace Go.Proofs.Ytdmkdogakbipbaa
open Go.SX Go.RowKit
/-! a graph of an input and a quadratic -/
def inN (u : IntsV) (lo hi : Int) : NodeV := ⟨1, 0, 0, u, lo, hi, 0, nilI, nilI⟩
def powN (v : IntsV) : NodeV := ⟨8, 0, 0, nilI, 0, 0, 0, v, nilI⟩
def g2 (nb : Option Addr) (nc : Nat) (u v : IntsV) (lo hi : Int) : GraphV := ⟨nb, nc, [inN u lo hi, powN v], 1⟩
theorem ent1 : entries [1] = 1 := by unfold entries; decide
theorem bd_near {l : List Int} (h : ∀ x ∈ l, bd20 x) : nearL l = true := List.all_eq_true.2 fun x hx => by have := h x hx; unfold bd20 at this; simpa using this
theorem check_g2 {nb : Option Addr} {nc : Nat} {u v : IntsV} {lo hi : Int} (hu : u.xs = [1]) (hv : v.xs.length = 3) (hb : ∀ x ∈ v.xs, bd20 x) (hlo : bd20 lo) (hhi : bd20 hi) (hle : lo ≤ hi) : check (g2 nb nc u v lo hi) = (0, [[1], [1]]) := by
  have f1 : formB (inN u lo hi) (([] : List (List Int)).length : Nat) = true := by
    unfold formB inN
    rw [if_pos rfl]
    unfold lacksB
    simp [hu, ent1, nilI]
  have s1 : shapeO (inN u lo hi) [] = some [1] := by
    unfold shapeO inN
    rw [if_pos (.inl rfl)]
    simp [hu]
  have n1 : nearB (inN u lo hi) = true := by
    unfold nearB inN
    rw [show nearL nilI.xs = true from rfl, bd_near (l := [lo, hi]) (by intro x hx; simp at hx; rcases hx with rfl | rfl <;> assumption)]
    simp [hle]
  have f2 : formB (powN v) (([] ++ [[1]] : List (List Int)).length : Nat) = true := by
    unfold formB powN
    repeat (first | rw [if_pos rfl] | rw [if_neg (by decide)])
    unfold lacksB aheadB
    simp [hv, nilI]
  have s2 : shapeO (powN v) ([] ++ [[1]]) = some [1] := by
    unfold shapeO powN
    repeat (first | rw [if_pos rfl] | rw [if_neg (by decide)])
    rfl
  have n2 : nearB (powN v) = true := by
    unfold nearB powN
    rw [bd_near hb, show nearL nilI.xs = true from rfl]
    rfl
  unfold check g2
  rw [if_neg (by simp)]
  rw [checkR_next f1 s1 n1, checkR_next f2 s2 n2]
  rfl
theorem spansR_step {n : NodeV} {r : List NodeV} {acc : List Sp} {L : List Int} (h : endsL n (acc.getD n.a.toNat (0, 0)) (acc.getD n.b.toNat (0, 0)) = L) : spansR (n :: r) acc = if foldI min L < -1048576 ∨ 1048576 < foldI max L then (5, []) else spansR r (acc ++ [(foldI min L, foldI max L)]) := by
  subst h; rfl
theorem spans_g2 {nb : Option Addr} {nc : Nat} {u v : IntsV} {lo hi : Int} (hc : check (g2 nb nc u v lo hi) = (0, [[1], [1]])) (hlo : bd20 lo) (hhi : bd20 hi) (hle : lo ≤ hi) :
    spansG (g2 nb nc u v lo hi) = if foldI min (powEnds v.xs (lo, hi)) < -1048576 ∨ 1048576 < foldI max (powEnds v.xs (lo, hi)) then (5, []) else (0, [(lo, hi), (foldI min (powEnds v.xs (lo, hi)), foldI max (powEnds v.xs (lo, hi)))]) := by
  have m1 : foldI min [lo, hi] = lo := by show min lo hi = lo; omega
  have m2 : foldI max [lo, hi] = hi := by show max lo hi = hi; omega
  have e1 : endsL (inN u lo hi) (([] : List Sp).getD 0 (0, 0)) (([] : List Sp).getD 0 (0, 0)) = [lo, hi] := if_pos rfl
  have e2 : endsL (powN v) (([] ++ [(lo, hi)] : List Sp).getD 0 (0, 0)) (([] ++ [(lo, hi)] : List Sp).getD 0 (0, 0)) = powEnds v.xs (lo, hi) := by
    unfold endsL powN
    repeat (first | rw [if_pos rfl] | rw [if_neg (by decide)])
    rfl
  unfold spansG
  rw [hc, if_neg (by simp)]
  unfold bd20 at hlo hhi
  show spansR [inN u lo hi, powN v] [] = _
  rw [spansR_step (n := inN u lo hi) (acc := []) e1, m1, m2, if_neg (by omega), spansR_step (n := powN v) (acc := [] ++ [(lo, hi)]) e2]
  rfl
theorem g2_nlin {nb : Option Addr} {nc : Nat} {u v : IntsV} {lo hi : Int} : ∀ n ∈ (g2 nb nc u v lo hi).l, nlin n := fun n hn => by
  simp only [g2, List.mem_cons, List.not_mem_nil, or_false] at hn
  rcases hn with rfl | rfl
  · exact ⟨(show (1 : Int) ≠ 3 by decide), (show (1 : Int) ≠ 4 by decide), (show (1 : Int) ≠ 5 by decide)⟩
  · exact ⟨(show (8 : Int) ≠ 3 by decide), (show (8 : Int) ≠ 4 by decide), (show (8 : Int) ≠ 5 by decide)⟩
theorem g2_ok {w : World} {nb : Option Addr} {nc : Nat} {u v : IntsV} {lo hi : Int} (hr : RowsI w nb 9 (nodeRows [inN u lo hi, powN v])) (hu : u.ok w) (hv : v.ok w) (hul : u.xs.length ≤ 5000) (hvl : v.xs.length ≤ 5000) (hlo : bd20 lo) (hhi : bd20 hi) : (g2 nb nc u v lo hi).ok w := by
  have hn : nilI.ok w := intsA_ok nilI_sane (nilI_holds (fun _ => True) w)
  unfold bd20 at hlo hhi
  refine ⟨hr, fun n hnm => ?_, fun n hnm => ?_, by show 2 ≤ 1000000; decide, (by show i64 1; exact z1)⟩
  · simp only [g2, List.mem_cons, List.not_mem_nil, or_false] at hnm
    rcases hnm with rfl | rfl
    · exact ⟨hu, hn, hn, z1, z0, z0, ⟨by show _ ≤ lo; omega, by show lo ≤ _; omega⟩, ⟨by show _ ≤ hi; omega, by show hi ≤ _; omega⟩, z0⟩
    · exact ⟨hn, hv, hn, (show i64 8 from ⟨by decide, by decide⟩), z0, z0, z0, z0, z0⟩
  · simp only [g2, List.mem_cons, List.not_mem_nil, or_false] at hnm
    rcases hnm with rfl | rfl
    · exact ⟨by simp [inN, nilI], by simp [inN, nilI]⟩
    · exact ⟨hvl, by simp [powN, nilI]⟩
/-! Most -/
def mostStep (m : Int) (s : Sp) : Int := max (max (max (max m s.1) (0 - s.1)) s.2) (0 - s.2)
def mostL (l : List Sp) : Int := l.foldl mostStep 0
theorem mostL_snoc {l : List Sp} {k : Nat} (h : k < l.length) : mostL (l.take (k + 1)) = mostStep (mostL (l.take k)) l[k] := by
  unfold mostL; rw [List.take_succ_eq_append_getElem h, List.foldl_append]; rfl
theorem mostL_bd : ∀ {l : List Sp} {m : Int}, 0 ≤ m → m ≤ 1048576 → (∀ s ∈ l, bd20 s.1 ∧ bd20 s.2) → 0 ≤ l.foldl mostStep m ∧ l.foldl mostStep m ≤ 1048576
  | [], m, h0, h1, _ => ⟨h0, h1⟩
  | s :: r, m, h0, h1, h => by
    have hs := h s List.mem_cons_self
    unfold bd20 at hs
    exact mostL_bd (l := r) (m := mostStep m s) (by unfold mostStep; omega) (by unfold mostStep; omega) (fun x hx => h x (List.mem_cons_of_mem _ hx))
theorem wrap_mone {z y : Int} {K : Int → Prop} (h : z = y) (h1 : -9223372036854775808 ≤ y) (h2 : y ≤ 9223372036854775807) (hk : K y) : wrapK .i64 z K := by
  subst h; exact wrap_i64 h1 h2 hk
set_option maxRecDepth 20000 in
theorem most_any (w : World) (base : Option Addr) (cap : Nat) (l : List Sp) (hr : RowsI w base 2 (spRows l)) (hb : ∀ s ∈ l, bd20 s.1 ∧ bd20 s.2) (hlen : l.length ≤ 9223372036854775807) : Calls Try.prog 39 #[.slice base l.length cap] w fun e w' => e = .returned (.int .i64 (mostL l)) ∧ Ext w w' := by
  refine calls_of tab tabOk Try.func39 rfl rfl rfl [] (fun _ => ⟨none, 0⟩) [.c (.slice base l.length cap)] [] (baseA w) 0 rfl rfl (by show 1 ≤ _; decide) (abs_base w) ?_
  (repeat' ((conv => whnf) <;> first | (show Wp _ _ _ _ _ _ _; (refine Wp.go tabOk rfl ?_)) | (show @cmpK _ _ _; (first | refine cmp_yes (by omega) ?_ | refine cmp_no (by omega) ?_ | (refine cmp_both ?_ ?_ <;> intro _))) | (show wrapK _ _ _; (refine wrap_i64 (by omega) (by omega) ?_)) | (show leK _ _ _; (refine le_of (by first | exact Nat.le_refl _ | omega) ?_)) | (show roomK _ _ _; (refine room_of (by first | omega | (dsimp only; omega)) ?_)) | (show ltK _ _ _; (refine lt_of (by omega) ?_)) | (show _ ∧ _; (refine ⟨?_, ?_⟩)) | (show keepK _ _ _ _ _; (refine keep_of (by first | exact List.Sublist.refl _ | exact List.Sublist.cons _ (List.Sublist.refl _) | exact List.Sublist.cons _ (List.Sublist.cons _ (List.Sublist.refl _)) | exact List.Sublist.cons _ (List.Sublist.cons _ (List.Sublist.cons _ (List.Sublist.refl _)))) (by first | exact (fun _ _ h => h) | exact (fun _ _ h => h.1) | exact (fun _ _ h => h.1.1)) ?_)) | (show ownK _ _ _ _ _; (refine own_keep ?_))))
  refine Wp.loop (σ := Nat × Int) 0 (fun ⟨k, m⟩ => [(3, .c (.int .i64 m)), (6, .c (.slice base l.length cap)), (7, .c (.int .i64 l.length)), (8, .c (.int .i64 k))]) (fun _ => []) (fun _ => baseA w)
    (fun ⟨k, m⟩ => k ≤ l.length ∧ m = mostL (l.take k)) (fun s => l.length - s.1) (0, 0) [] (by decide) (fun s => ⟨rfl, rfl⟩) ⟨Nat.zero_le _, rfl⟩ ⟨rfl, ⟨rfl, rfl, rfl, rfl, trivial⟩, trivial, fun _ _ h => h⟩ ?_
  rintro ⟨k, m⟩ ⟨hk, hm⟩
  by_cases hlt : k < l.length
  · obtain ⟨a, ha⟩ : ∃ a, base = some a := base_some (j := k) hr (by rw [spRows_length]; exact hlt)
    have hrow := spRows_get hlt
    have hsn := mostL_snoc hlt
    have hbk := hb _ (List.getElem_mem hlt)
    generalize l[k] = s at *
    unfold bd20 at hbk
    (repeat' ((conv => whnf) <;> first | (show idxK _ _ _ _ _; (refine idx_of a k ha rfl hlt ?_)) | (show roAggK _ _ _ _; (refine roAgg_row (fun R w' h => by rw [← ha]; exact rows_base h hr) _ hrow rfl ?_)) | (show Wp _ _ _ _ _ _ _; (refine Wp.go tabOk rfl ?_)) | (show @cmpK _ _ _; (first | refine cmp_yes (by omega) ?_ | refine cmp_no (by omega) ?_ | (refine cmp_both ?_ ?_ <;> intro _))) | (show wrapK _ _ _; (refine wrap_i64 (by omega) (by omega) ?_)) | (show leK _ _ _; (refine le_of (by first | exact Nat.le_refl _ | omega) ?_)) | (show roomK _ _ _; (refine room_of (by first | omega | (dsimp only; omega)) ?_)) | (show ltK _ _ _; (refine lt_of (by omega) ?_)) | (show _ ∧ _; (refine ⟨?_, ?_⟩)) | (show keepK _ _ _ _ _; (refine keep_of (by first | exact List.Sublist.refl _ | exact List.Sublist.cons _ (List.Sublist.refl _) | exact List.Sublist.cons _ (List.Sublist.cons _ (List.Sublist.refl _)) | exact List.Sublist.cons _ (List.Sublist.cons _ (List.Sublist.cons _ (List.Sublist.refl _)))) (by first | exact (fun _ _ h => h) | exact (fun _ _ h => h.1) | exact (fun _ _ h => h.1.1)) ?_)) | (show ownK _ _ _ _ _; (refine own_keep ?_))))
    all_goals (conv => whnf)
    all_goals exact ⟨(k + 1, _), [], ⟨hlt, by rw [hsn, ← hm]; unfold mostStep; omega⟩, by simp only; omega, rfl, ⟨rfl, rfl, rfl, rfl, trivial⟩, trivial, fun _ _ h => h⟩
  · obtain rfl : k = l.length := by omega
    rw [List.take_of_length_le (Nat.le_refl _)] at hm
    (repeat' ((conv => whnf) <;> first | (show Wp _ _ _ _ _ _ _; (refine Wp.go tabOk rfl ?_)) | (show @cmpK _ _ _; (first | refine cmp_yes (by omega) ?_ | refine cmp_no (by omega) ?_ | (refine cmp_both ?_ ?_ <;> intro _))) | (show wrapK _ _ _; (refine wrap_i64 (by omega) (by omega) ?_)) | (show leK _ _ _; (refine le_of (by first | exact Nat.le_refl _ | omega) ?_)) | (show roomK _ _ _; (refine room_of (by first | omega | (dsimp only; omega)) ?_)) | (show ltK _ _ _; (refine lt_of (by omega) ?_)) | (show _ ∧ _; (refine ⟨?_, ?_⟩)) | (show keepK _ _ _ _ _; (refine keep_of (by first | exact List.Sublist.refl _ | exact List.Sublist.cons _ (List.Sublist.refl _) | exact List.Sublist.cons _ (List.Sublist.cons _ (List.Sublist.refl _)) | exact List.Sublist.cons _ (List.Sublist.cons _ (List.Sublist.cons _ (List.Sublist.refl _)))) (by first | exact (fun _ _ h => h) | exact (fun _ _ h => h.1) | exact (fun _ _ h => h.1.1)) ?_)) | (show ownK _ _ _ _ _; (refine own_keep ?_))))
    conv => whnf
    exact ends_of (fun _ _ h => h) (fun _ => by rw [← hm]; rfl) rfl
/-! spans held against spans -/
theorem c_span : Try.prog.cellsOf 68 = 2 := by kernel_rfl
theorem c_intI : Try.prog.cellsOf 3 = 1 := by kernel_rfl
theorem wf_ofI {x : Int} (h : i64 x) : (Lit.int .i64 x).wf = true := by
  simp [Lit.wf, IntKind.min, IntKind.max, IntKind.signed, IntKind.bits]
  exact ⟨h.1, by have := h.2; omega⟩
def spLits (s : Sp) : List Lit := [.int .i64 s.1, .int .i64 s.2]
theorem sp_lits (s : Sp) (h1 : i64 s.1) (h2 : i64 s.2) : Try.prog.keyLits 2 68 [.int .i64 s.1, .int .i64 s.2] = some (spLits s) := by
  simp [Program.keyLits, Try.underlying68, c_span, List.mapM_cons, Try.underlying3, c_intI, wf_ofI h1, wf_ofI h2]
  rfl
theorem span_eql {s : Sp} (h1 : i64 s.1) (h2 : i64 s.2) {ox oy : Operand} {K : SV → Prop} (h : K (.c (.bool true))) : pureK Try.prog (do eqGuard .eql 68 ox oy (spanV s) (spanV s); binOp .eql 68 (spanV s) (spanV s)) K := by
  rw [pureK_def]
  refine ⟨_, fun w => ?_, h⟩
  have g1 : (eqGuard .eql 68 ox oy (spanV s) (spanV s)).run Try.prog w = .ok () w := by
    have : Try.prog.eqGuardType Try.prog.depth 68 = false := by kernel_rfl
    simp [eqGuard, spanV, this]
  obtain ⟨r, q2, q3⟩ := run_equalIn_deep (P := Try.prog) 9998 2 68 (by kernel_rfl) w 2 2 (spanV s) (spanV s) (spLits s) (spLits s) (by simp [spanV, Value.formed, Try.underlying68, c_span]) (by simp [spanV, Value.formed, Try.underlying68, c_span]) (sp_lits s h1 h2) (sp_lits s h1 h2)
  have hr : r = true := q3.2 rfl
  subst hr
  have h4 : (Op.equal 68 (spanV s) (spanV s)).run Try.prog w = .ok true w := q2
  simp only [Sem.run_bind, g1, Result.andThen_ok]
  simp [spanV, binOp] at h4 ⊢
  rw [h4]; rfl
end Go.Proofs.Ytdmkdogakbipbaa
/- IJ -/
namespace Go.Proofs.Ytdmkdogakbipbaa
open Go.SX Go.RowKit
theorem freeze_intsI {w0 : World} {i n : Nat} (xs : List Int) {R0 : List (List Value)} {T : TypeId} {H : Heap} {S : Asn} {nx : Nat} {K : SV → Heap → Asn → Nat → Prop} (hN : ∀ R w, S.holds R w → (baseA w0).holds R w) (he : R0 = ints xs) (hn : n = xs.length) (hf : ∀ x ∈ xs, i64 x) (hl : xs.length ≤ 1000000) (h : ∀ u : IntsV, u.xs = xs → u.sane → K (.c u.val) H (S.and ((intsA u).past w0.heap.size)) nx) : ownK (.os i n) ((i, .rows R0 1 T) :: H) S nx K := by
  subst he hn
  exact own_freeze w0.heap.size (fun R w hS b hb => (hN R w hS b hb).1) (fun l hc => h ⟨l.base, l.cap, xs⟩ rfl ⟨hf, by simpa [ints_length] using hc, hl⟩)
theorem freeze_nodesI {w0 : World} {i n : Nat} (l : List NodeV) {R0 : List (List Value)} {T : TypeId} {H : Heap} {S : Asn} {nx : Nat} {K : SV → Heap → Asn → Nat → Prop} (hN : ∀ R w, S.holds R w → (baseA w0).holds R w) (he : R0 = nodeRows l) (hn : n = l.length) (h : ∀ base cap, K (.c (.slice base l.length cap)) H (S.and ((rowsA base 9 (nodeRows l)).past w0.heap.size)) nx) : ownK (.os i n) ((i, .rows R0 9 T) :: H) S nx K := by
  subst he hn
  exact own_freeze w0.heap.size (fun R w hS b hb => (hN R w hS b hb).1) (fun lc _ => h lc.base lc.cap)
theorem freeze_slicesI {w0 : World} {i n : Nat} (l : List IntsV) {R0 : List (List Value)} {T : TypeId} {H : Heap} {S : Asn} {nx : Nat} {K : SV → Heap → Asn → Nat → Prop} (hN : ∀ R w, S.holds R w → (baseA w0).holds R w) (he : R0 = shRows l) (hn : n = l.length) (h : ∀ base cap, l.length ≤ cap → K (.c (.slice base l.length cap)) H (S.and ((rowsA base 1 (shRows l)).past w0.heap.size)) nx) : ownK (.os i n) ((i, .rows R0 1 T) :: H) S nx K := by
  subst he hn
  exact own_freeze w0.heap.size (fun R w hS b hb => (hN R w hS b hb).1) (fun lc hc => h lc.base lc.cap (by simpa [shRows_length] using hc))
theorem few_i64 {xs : List Int} (h : (xs.all fun x => decide (-1000000 ≤ x ∧ x ≤ 1000000)) = true) : ∀ x ∈ xs, i64 x := fun x hx => by
  have := of_decide_eq_true (List.all_eq_true.1 h x hx)
  unfold i64; omega
theorem few_bd {xs : List Int} (h : (xs.all fun x => decide (-1000000 ≤ x ∧ x ≤ 1000000)) = true) : ∀ x ∈ xs, bd20 x := fun x hx => by
  have := of_decide_eq_true (List.all_eq_true.1 h x hx)
  unfold bd20; omega
/-- a call of Run -/
theorem call_run {cx : Cx} {f : FuncId} {args : List SV} {H : Heap} {S : Asn} {nx : Nat} {K : SV → Heap → Asn → Nat → Prop} (r : Int × List Int) (hf : ∀ ar w, (callFunc f ar).run cx.P w = .ok (.enter f ar) w)
    (hc : ∀ ρ w', Abs cx.B ρ nx H S w' → Calls cx.P f (SV.rfs ρ args).toArray w' (RunPost w' r))
    (h0 : r.1 ≠ 0 → K (.c (.tuple #[.slice none 0 0, .int .i64 r.1])) H S nx)
    (h1 : r.1 = 0 → ∀ x : IntsV, x.xs = r.2 → x.sane → K (.c (.tuple #[x.val, .int .i64 0])) H (S.and ((intsA x).past cx.B.w0.heap.size)) nx) : callK cx f args H S nx K := by
  rw [callK_def]
  refine ⟨hf, fun ρ w hw => (hc ρ w hw).mono ?_⟩
  rintro e w' (⟨hr, rfl, he⟩ | ⟨hr, x, ⟨hx1, hx2⟩, rfl, he, hD⟩)
  · exact ⟨.c (.tuple #[.slice none 0 0, .int .i64 r.1]), ρ, H, S, nx, rfl, fun _ _ => rfl, Nat.le_refl _, SV.lt_c _, hw.ext he, h0 hr⟩
  · exact ⟨.c (.tuple #[x.val, .int .i64 0]), ρ, H, _, nx, rfl, fun _ _ => rfl, Nat.le_refl _, SV.lt_c _, hw.grow he hD, h1 hr x hx1 hx2⟩
theorem run_f {nb : Option Addr} {nc : Nat} {u v : IntsV} (hu : u.xs = [1]) (hv : v.xs = [1, 0, 1]) : spansG (g2 nb nc u v (-2) 3) = (0, [(-2, 3), (1, 10)]) ∧ runG (g2 nb nc u v (-2) 3) [[-2]] = (0, [5]) := by
  have hc := check_g2 (nb := nb) (nc := nc) (u := u) (v := v) (lo := -2) (hi := 3) hu (by rw [hv]; rfl) (by rw [hv]; exact few_bd rfl) ⟨by decide, by decide⟩ ⟨by decide, by decide⟩ (by decide)
  have hs := spans_g2 hc ⟨by decide, by decide⟩ ⟨by decide, by decide⟩ (by decide)
  have hs2 : spansG (g2 nb nc u v (-2) 3) = (0, [(-2, 3), (1, 10)]) := by rw [hs, hv]; rfl
  refine ⟨hs2, ?_⟩
  unfold runG valsG
  rw [hs2, hc]
  have hv1 : valsR (g2 nb nc u v (-2) 3).l [[1], [1]] [] [[-2]] = (0, [[-2], [5]]) := by
    show valsR [inN u (-2) 3, powN v] [[1], [1]] [] [[-2]] = _
    unfold valsR
    rw [if_neg (by simp [inN])]
    simp only
    rw [if_neg (by rw [ent1]; simp [inN, foldI])]
    unfold valsR
    rw [if_pos (by simp [powN])]
    unfold valsR
    rw [ent1]
    have : numsL (powN v) (1 : Int).toNat (([] ++ [[-2]] : List (List Int)).getD (powN v).a.toNat []) (([] ++ [[-2]] : List (List Int)).getD (powN v).b.toNat []) = [5] := by
      show [numAt (powN v) [-2] [-2] 0] = [5]
      have : numAt (powN v) [-2] [-2] 0 = powI v.xs (-2) := rfl
      rw [this, hv]; rfl
    rw [this]; rfl
  rw [hv1]; rfl
set_option maxRecDepth 20000 in
set_option maxHeartbeats 1000000 in
theorem fixed17_any (w : World) : Calls Try.prog 15 #[] w fun e w' => e = .returned (.bool true) ∧ Ext w w' := by
  refine calls_of tab tabOk Try.func15 rfl rfl rfl [] (fun _ => ⟨none, 0⟩) [] [] (baseA w) 0 rfl rfl (by show 0 ≤ _; decide) (abs_base w) ?_
  (repeat' ((conv => whnf) <;> first | (show Wp _ _ _ _ _ _ _; (refine Wp.go tabOk rfl ?_)) | (show @cmpK _ _ _; (first | refine cmp_yes (by omega) ?_ | refine cmp_no (by omega) ?_ | (refine cmp_both ?_ ?_ <;> intro _))) | (show wrapK _ _ _; (refine wrap_i64 (by omega) (by omega) ?_)) | (show leK _ _ _; (refine le_of (by first | exact Nat.le_refl _ | omega) ?_)) | (show roomK _ _ _; (refine room_of (by first | omega | (dsimp only; omega)) ?_)) | (show ltK _ _ _; (refine lt_of (by omega) ?_)) | (show _ ∧ _; (refine ⟨?_, ?_⟩)) | (show keepK _ _ _ _ _; (refine keep_of (by first | exact List.Sublist.refl _ | exact List.Sublist.cons _ (List.Sublist.refl _) | exact List.Sublist.cons _ (List.Sublist.cons _ (List.Sublist.refl _)) | exact List.Sublist.cons _ (List.Sublist.cons _ (List.Sublist.cons _ (List.Sublist.refl _)))) (by first | exact (fun _ _ h => h) | exact (fun _ _ h => h.1) | exact (fun _ _ h => h.1.1)) ?_))))
  refine freeze_intsI (w0 := w) [1] (fun R w' h => h) rfl rfl (few_i64 rfl) (by decide) (fun u hu hus => ?_)
  (repeat' ((conv => whnf) <;> first | (show Wp _ _ _ _ _ _ _; (refine Wp.go tabOk rfl ?_)) | (show @cmpK _ _ _; (first | refine cmp_yes (by omega) ?_ | refine cmp_no (by omega) ?_ | (refine cmp_both ?_ ?_ <;> intro _))) | (show wrapK _ _ _; (refine wrap_i64 (by omega) (by omega) ?_)) | (show leK _ _ _; (refine le_of (by first | exact Nat.le_refl _ | omega) ?_)) | (show roomK _ _ _; (refine room_of (by first | omega | (dsimp only; omega)) ?_)) | (show ltK _ _ _; (refine lt_of (by omega) ?_)) | (show _ ∧ _; (refine ⟨?_, ?_⟩)) | (show keepK _ _ _ _ _; (refine keep_of (by first | exact List.Sublist.refl _ | exact List.Sublist.cons _ (List.Sublist.refl _) | exact List.Sublist.cons _ (List.Sublist.cons _ (List.Sublist.refl _)) | exact List.Sublist.cons _ (List.Sublist.cons _ (List.Sublist.cons _ (List.Sublist.refl _)))) (by first | exact (fun _ _ h => h) | exact (fun _ _ h => h.1) | exact (fun _ _ h => h.1.1)) ?_))))
  refine freeze_intsI (w0 := w) [1, 0, 1] (fun R w' h => h.1) rfl rfl (few_i64 rfl) (by decide) (fun v hv hvs => ?_)
  (repeat' ((conv => whnf) <;> first | (show Wp _ _ _ _ _ _ _; (refine Wp.go tabOk rfl ?_)) | (show @cmpK _ _ _; (first | refine cmp_yes (by omega) ?_ | refine cmp_no (by omega) ?_ | (refine cmp_both ?_ ?_ <;> intro _))) | (show wrapK _ _ _; (refine wrap_i64 (by omega) (by omega) ?_)) | (show leK _ _ _; (refine le_of (by first | exact Nat.le_refl _ | omega) ?_)) | (show roomK _ _ _; (refine room_of (by first | omega | (dsimp only; omega)) ?_)) | (show ltK _ _ _; (refine lt_of (by omega) ?_)) | (show _ ∧ _; (refine ⟨?_, ?_⟩)) | (show keepK _ _ _ _ _; (refine keep_of (by first | exact List.Sublist.refl _ | exact List.Sublist.cons _ (List.Sublist.refl _) | exact List.Sublist.cons _ (List.Sublist.cons _ (List.Sublist.refl _)) | exact List.Sublist.cons _ (List.Sublist.cons _ (List.Sublist.cons _ (List.Sublist.refl _)))) (by first | exact (fun _ _ h => h) | exact (fun _ _ h => h.1) | exact (fun _ _ h => h.1.1)) ?_))))
  refine freeze_nodesI (w0 := w) [inN u (-2) 3, powN v] (fun R w' h => h.1.1) rfl rfl (fun nb nc => ?_)
  obtain ⟨hS, hR⟩ := run_f (nb := nb) (nc := nc) hu hv
  have hgok : ∀ {R : Nat → Prop} {w' : World}, (((baseA w).and ((intsA u).past w.heap.size)).and ((intsA v).past w.heap.size)).and ((rowsA nb 9 (nodeRows [inN u (-2) 3, powN v])).past w.heap.size) |>.holds R w' → (g2 nb nc u v (-2) 3).ok w' := fun h => g2_ok (rowsA_in h.2) (intsA_ok hus h.1.1.2) (intsA_ok hvs h.1.2) (by rw [hu]; decide) (by rw [hv]; decide) ⟨by decide, by decide⟩ ⟨by decide, by decide⟩
  (repeat' ((conv => whnf) <;> first | (show Wp _ _ _ _ _ _ _; (refine Wp.go tabOk rfl ?_)) | (show @cmpK _ _ _; (first | refine cmp_yes (by omega) ?_ | refine cmp_no (by omega) ?_ | (refine cmp_both ?_ ?_ <;> intro _))) | (show wrapK _ _ _; (refine wrap_i64 (by omega) (by omega) ?_)) | (show leK _ _ _; (refine le_of (by first | exact Nat.le_refl _ | omega) ?_)) | (show roomK _ _ _; (refine room_of (by first | omega | (dsimp only; omega)) ?_)) | (show ltK _ _ _; (refine lt_of (by omega) ?_)) | (show _ ∧ _; (refine ⟨?_, ?_⟩)) | (show keepK _ _ _ _ _; (refine keep_of (by first | exact List.Sublist.refl _ | exact List.Sublist.cons _ (List.Sublist.refl _) | exact List.Sublist.cons _ (List.Sublist.cons _ (List.Sublist.refl _)) | exact List.Sublist.cons _ (List.Sublist.cons _ (List.Sublist.cons _ (List.Sublist.refl _)))) (by first | exact (fun _ _ h => h) | exact (fun _ _ h => h.1) | exact (fun _ _ h => h.1.1)) ?_))))
  refine call_spans (f := 25) (0, [(-2, 3), (1, 10)]) Try.call25 (fun ρ w' hw => by have := spans_any w' (g2 nb nc u v (-2) 3) (holds_of_abs hw fun R h => hgok h) g2_nlin; rw [hS] at this; exact this) (fun hne => absurd rfl hne) (fun _ sb sc => ?_)
  (repeat' ((conv => whnf) <;> first | (show Wp _ _ _ _ _ _ _; (refine Wp.go tabOk rfl ?_)) | (show @cmpK _ _ _; (first | refine cmp_yes (by omega) ?_ | refine cmp_no (by omega) ?_ | (refine cmp_both ?_ ?_ <;> intro _))) | (show wrapK _ _ _; (refine wrap_i64 (by omega) (by omega) ?_)) | (show leK _ _ _; (refine le_of (by first | exact Nat.le_refl _ | omega) ?_)) | (show roomK _ _ _; (refine room_of (by first | omega | (dsimp only; omega)) ?_)) | (show ltK _ _ _; (refine lt_of (by omega) ?_)) | (show _ ∧ _; (refine ⟨?_, ?_⟩)) | (show keepK _ _ _ _ _; (refine keep_of (by first | exact List.Sublist.refl _ | exact List.Sublist.cons _ (List.Sublist.refl _) | exact List.Sublist.cons _ (List.Sublist.cons _ (List.Sublist.refl _)) | exact List.Sublist.cons _ (List.Sublist.cons _ (List.Sublist.cons _ (List.Sublist.refl _)))) (by first | exact (fun _ _ h => h) | exact (fun _ _ h => h.1) | exact (fun _ _ h => h.1.1)) ?_))))
  refine freeze_intsI (w0 := w) [-2] (fun R w' h => h.1.1.1.1) rfl rfl (few_i64 rfl) (by decide) (fun y hy hys => ?_)
  (repeat' ((conv => whnf) <;> first | (show Wp _ _ _ _ _ _ _; (refine Wp.go tabOk rfl ?_)) | (show @cmpK _ _ _; (first | refine cmp_yes (by omega) ?_ | refine cmp_no (by omega) ?_ | (refine cmp_both ?_ ?_ <;> intro _))) | (show wrapK _ _ _; (refine wrap_i64 (by omega) (by omega) ?_)) | (show leK _ _ _; (refine le_of (by first | exact Nat.le_refl _ | omega) ?_)) | (show roomK _ _ _; (refine room_of (by first | omega | (dsimp only; omega)) ?_)) | (show ltK _ _ _; (refine lt_of (by omega) ?_)) | (show _ ∧ _; (refine ⟨?_, ?_⟩)) | (show keepK _ _ _ _ _; (refine keep_of (by first | exact List.Sublist.refl _ | exact List.Sublist.cons _ (List.Sublist.refl _) | exact List.Sublist.cons _ (List.Sublist.cons _ (List.Sublist.refl _)) | exact List.Sublist.cons _ (List.Sublist.cons _ (List.Sublist.cons _ (List.Sublist.refl _)))) (by first | exact (fun _ _ h => h) | exact (fun _ _ h => h.1) | exact (fun _ _ h => h.1.1)) ?_))))
  refine freeze_slicesI (w0 := w) [y] (fun R w' h => h.1.1.1.1.1) rfl rfl (fun ib ic hic => ?_)
  (repeat' ((conv => whnf) <;> first | (show Wp _ _ _ _ _ _ _; (refine Wp.go tabOk rfl ?_)) | (show @cmpK _ _ _; (first | refine cmp_yes (by omega) ?_ | refine cmp_no (by omega) ?_ | (refine cmp_both ?_ ?_ <;> intro _))) | (show wrapK _ _ _; (refine wrap_i64 (by omega) (by omega) ?_)) | (show leK _ _ _; (refine le_of (by first | exact Nat.le_refl _ | omega) ?_)) | (show roomK _ _ _; (refine room_of (by first | omega | (dsimp only; omega)) ?_)) | (show ltK _ _ _; (refine lt_of (by omega) ?_)) | (show _ ∧ _; (refine ⟨?_, ?_⟩)) | (show keepK _ _ _ _ _; (refine keep_of (by first | exact List.Sublist.refl _ | exact List.Sublist.cons _ (List.Sublist.refl _) | exact List.Sublist.cons _ (List.Sublist.cons _ (List.Sublist.refl _)) | exact List.Sublist.cons _ (List.Sublist.cons _ (List.Sublist.cons _ (List.Sublist.refl _)))) (by first | exact (fun _ _ h => h) | exact (fun _ _ h => h.1) | exact (fun _ _ h => h.1.1)) ?_))))
  refine call_run (f := 18) (0, [5]) Try.call18 (fun ρ w' hw => by
    have hok : InV.ok w' (⟨ib, ic, [y]⟩ : ShapesV) := holds_of_abs hw fun R h => ⟨rowsA_in h.2, fun z hz => by rw [List.mem_singleton.1 hz]; exact intsA_ok hys h.1.2, hic, (show 1 ≤ 1000000 by decide)⟩
    have := run_any w' (g2 nb nc u v (-2) 3) (holds_of_abs hw fun R h => hgok h.1.1.1) ⟨ib, ic, [y]⟩ hok g2_nlin
    have e : ([y].map IntsV.xs) = [[-2]] := by rw [List.map_cons, List.map_nil, hy]
    rw [e, hR] at this
    exact this) (fun hne => absurd rfl hne) (fun _ z hz hzs => ?_)
  refine Wp.know (p := ∃ a, sb = some a) (fun ρ w' hw => holds_of_abs hw fun R h => base_some (j := 0) (rowsA_in h.1.1.1.2) (show 0 < 2 by decide)) ?_
  rintro ⟨sa, rfl⟩
  (repeat' ((conv => whnf) <;> first | (show @cmpK _ _ _; (refine cmp_yes rfl ?_)) | (show idxK _ _ _ _ _; (refine idx_of sa 1 rfl rfl (show 1 < 2 by decide) ?_)) | (show roAggK _ _ _ _; (refine roAgg_row (fun R w' h => rowsA_in h.1.1.1.2) [.int .i64 1, .int .i64 10] (j := 1) rfl rfl ?_)) | (show pureK _ _ _; (refine span_eql (s := (1, 10)) ⟨by decide, by decide⟩ ⟨by decide, by decide⟩ ?_)) | (show Wp _ _ _ _ _ _ _; (refine Wp.go tabOk rfl ?_)) | (show @cmpK _ _ _; (first | refine cmp_yes (by omega) ?_ | refine cmp_no (by omega) ?_ | (refine cmp_both ?_ ?_ <;> intro _))) | (show wrapK _ _ _; (refine wrap_i64 (by omega) (by omega) ?_)) | (show leK _ _ _; (refine le_of (by first | exact Nat.le_refl _ | omega) ?_)) | (show roomK _ _ _; (refine room_of (by first | omega | (dsimp only; omega)) ?_)) | (show ltK _ _ _; (refine lt_of (by omega) ?_)) | (show _ ∧ _; (refine ⟨?_, ?_⟩)) | (show keepK _ _ _ _ _; (refine keep_of (by first | exact List.Sublist.refl _ | exact List.Sublist.cons _ (List.Sublist.refl _) | exact List.Sublist.cons _ (List.Sublist.cons _ (List.Sublist.refl _)) | exact List.Sublist.cons _ (List.Sublist.cons _ (List.Sublist.cons _ (List.Sublist.refl _)))) (by first | exact (fun _ _ h => h) | exact (fun _ _ h => h.1) | exact (fun _ _ h => h.1.1)) ?_))))
  refine freeze_intsI (w0 := w) [5] (fun R w' h => h.1.1.1.1.1.1.1) rfl rfl (few_i64 rfl) (by decide) (fun q hq hqs => ?_)
  (repeat' ((conv => whnf) <;> first | (show @cmpK _ _ _; (refine cmp_yes rfl ?_)) | (show callK _ 26 _ _ _ _ _; (refine call_pure (f := 26) Try.call26 (.bool true) (fun ρ w' hw => by have := same_any w' z q (holds_of_abs hw fun R h => intsA_ok hzs h.1.2) (holds_of_abs hw fun R h => intsA_ok hqs h.2); rw [decide_eq_true (hz.trans hq.symm)] at this; exact this) ?_)) | (show callK _ 39 _ _ _ _ _; (refine call_pure (f := 39) Try.call39 (.int .i64 10) (fun ρ w' hw => most_any w' (some sa) sc [(-2, 3), (1, 10)] (holds_of_abs hw fun R h => rowsA_in h.1.1.1.1.2) (by intro s hs; simp at hs; rcases hs with rfl | rfl <;> exact ⟨⟨by decide, by decide⟩, ⟨by decide, by decide⟩⟩) (by decide)) ?_)) | (show Wp _ _ _ _ _ _ _; (refine Wp.go tabOk rfl ?_)) | (show @cmpK _ _ _; (first | refine cmp_yes (by omega) ?_ | refine cmp_no (by omega) ?_ | (refine cmp_both ?_ ?_ <;> intro _))) | (show wrapK _ _ _; (refine wrap_i64 (by omega) (by omega) ?_)) | (show leK _ _ _; (refine le_of (by first | exact Nat.le_refl _ | omega) ?_)) | (show roomK _ _ _; (refine room_of (by first | omega | (dsimp only; omega)) ?_)) | (show ltK _ _ _; (refine lt_of (by omega) ?_)) | (show _ ∧ _; (refine ⟨?_, ?_⟩)) | (show keepK _ _ _ _ _; (refine keep_of (by first | exact List.Sublist.refl _ | exact List.Sublist.cons _ (List.Sublist.refl _) | exact List.Sublist.cons _ (List.Sublist.cons _ (List.Sublist.refl _)) | exact List.Sublist.cons _ (List.Sublist.cons _ (List.Sublist.cons _ (List.Sublist.refl _)))) (by first | exact (fun _ _ h => h) | exact (fun _ _ h => h.1) | exact (fun _ _ h => h.1.1)) ?_)) | (show ownK _ _ _ _ _; (refine own_keep ?_))))
  conv => whnf
  exact ends_bool (fun R w' h => h.1.1.1.1.1.1.1.1) rfl rfl
end Go.Proofs.Ytdmkdogakbipbaa
/- JA -/
namespace Go.Proofs.Ytdmkdogakbipbaa
open Go.SX Go.RowKit Go.ChangeShapes Go.WideShapes Go.ChangeAt
/-! inputs that go with a graph's nodes -/
def goodIn : List NodeV → List (List Int) → Prop
  | [], inp => inp = []
  | n :: r, inp => if n.kind ≠ 1 then goodIn r inp else ∃ x xs, inp = x :: xs ∧ ((x.length : Int) = entries n.shape.xs ∧ ∀ v ∈ x, n.lo ≤ v ∧ v ≤ n.hi) ∧ goodIn r xs
theorem goodIn_skip {n : NodeV} (hn : n.kind ≠ 1) : ∀ {l : List NodeV} {inp : List (List Int)}, goodIn l inp → goodIn (l ++ [n]) inp
  | [], inp, h => by
    simp only [List.nil_append, goodIn] at h ⊢
    rw [if_pos hn]; exact h
  | m :: r, inp, h => by
    simp only [List.cons_append, goodIn] at h ⊢
    by_cases hm : m.kind ≠ 1
    · rw [if_pos hm] at h ⊢; exact goodIn_skip hn h
    · rw [if_neg hm] at h ⊢
      obtain ⟨x, xs, h1, h2, h3⟩ := h
      exact ⟨x, xs, h1, h2, goodIn_skip hn h3⟩
theorem goodIn_next {n : NodeV} {y : List Int} (hn : n.kind = 1) (hy : (y.length : Int) = entries n.shape.xs ∧ ∀ v ∈ y, n.lo ≤ v ∧ v ≤ n.hi) : ∀ {l : List NodeV} {inp : List (List Int)}, goodIn l inp → goodIn (l ++ [n]) (inp ++ [y])
  | [], inp, h => by
    simp only [List.nil_append, goodIn] at h ⊢
    subst h
    rw [if_neg (fun h => h hn)]
    exact ⟨y, [], rfl, hy, rfl⟩
  | m :: r, inp, h => by
    simp only [List.cons_append, goodIn] at h ⊢
    by_cases hm : m.kind ≠ 1
    · rw [if_pos hm] at h ⊢; exact goodIn_next hn hy h
    · rw [if_neg hm] at h ⊢
      obtain ⟨x, xs, h1, h2, h3⟩ := h
      exact ⟨x, xs ++ [y], by rw [h1]; rfl, h2, goodIn_next hn hy h3⟩
theorem newSlices {w w' : World} {v : Value} {l : List IntsV} {T : TypeId} (h : NewRows w w' v 1 T (shRows l)) : ∃ base cap, v = .slice base l.length cap ∧ l.length ≤ cap ∧ (rowsA base 1 (shRows l)).holds (fun b => w.heap.size ≤ b ∧ b < w'.heap.size) w' := by
  obtain ⟨base, cap, e, h1⟩ := newRows_data h
  obtain ⟨lc, e2, F, hF, hr, hcap, _⟩ := h
  rw [e2] at e
  simp only [Value.slice.injEq] at e
  obtain ⟨e3, _, e4⟩ := e
  refine ⟨base, cap, ?_, ?_, h1⟩
  · rw [e2, e3, e4, shRows_length]
  · rw [← e4]; simpa [shRows_length] using hcap
structure InpOut (l : List NodeV) (x : ShapesV) : Prop where
  good : goodIn l (x.l.map IntsV.xs)
  sane : ∀ u ∈ x.l, u.sane
  room : x.l.length ≤ x.cap
  few : x.l.length ≤ l.length
abbrev InputsPost (w : World) (b : Nat) (t : BytesV) (l : List NodeV) : Ending → World → Prop := TPost w b t ShapesV.val shapesD (InpOut l)
theorem ends_inputs {w : World} {b : Nat} {t : BytesV} {l : List NodeV} {H : Heap} {S : Asn} {nx j m k : Nat} {us : List IntsV} (h0 : (0, Ent.box (cs (tcells t k)) 30) ∈ H) (he : (j, Ent.rows (shRows us) 1 33) ∈ H) (hj : j ≠ 0) (hm : m = us.length) (hk : k ≤ t.bs.length)
    (hg : goodIn l (us.map IntsV.xs)) (hs : ∀ u ∈ us, u.sane) (hf : us.length ≤ l.length) (hS : ∀ R w', S.holds R w' → (restA w b).holds R w') (hE : ∀ R w', S.holds R w' → (eachA w.heap.size us).holds R w') : finK ⟨w, [(0, boxL b)]⟩ (.os j m) H S nx (InputsPost w b t l) := by
  subst hm
  refine fin_of fun ρ w' hw => ?_
  have hn := box_rows hw hS h0 he hj
  rw [shRows_length] at hn
  obtain ⟨base, cap, e, hc, hD⟩ := newSlices hn
  refine ⟨(⟨base, cap, us⟩, k), ⟨⟨hg, hs, hc, hf⟩, hk⟩, by rw [e]; rfl, (box_end hw hS h0).1, (box_end hw hS h0).2, hD, fun u hu => ?_⟩
  exact box_new hw (D := intsA u) fun R w' h => hE R w' h u hu
/-- what is asked of the nodes -/
structure NodeRd (n : NodeV) : Prop where
  made : Made n
  near : bd20 n.lo ∧ bd20 n.hi ∧ n.lo ≤ n.hi
theorem next_le (w : World) (b : Nat) (t : BytesV) (k : Nat) (h : TapeOk w b t k) (n m : Int) (hm : 0 ≤ m ∧ m ≤ 4294967296) (hn : n = m + 1) : Calls Try.prog 41 #[.pointer (some ⟨b, 0, none⟩), .int .i64 n] w (NumPost w b t fun r => 0 ≤ r ∧ r ≤ m) := by
  refine (next_any w b t k h n ⟨by omega, by omega⟩).mono ?_
  rintro e w' ⟨x, ⟨⟨h1, h2, h3⟩, h4⟩, h5⟩
  refine ⟨x, ⟨⟨h1, ?_⟩, h4⟩, h5⟩
  rcases (by omega : 2 ≤ n ∨ n < 2) with g | g
  · have := h2 g; omega
  · have := h3 g; omega
set_option maxRecDepth 20000 in
set_option maxHeartbeats 2000000 in
theorem inputs_any (w : World) (b : Nat) (t : BytesV) (k : Nat) (h : TapeOk w b t k) (gb : Option Addr) (gc : Nat) (l : List NodeV) (out : Int) (hlen : l.length ≤ 24) (hr : (rowsA gb 9 (nodeRows l)).holds (oth w b) w) (hnd : (nodesD l).holds (oth w b) w) (hn : ∀ n ∈ l, NodeRd n) :
    Calls Try.prog 17 #[.agg #[.slice gb l.length gc, .int .i64 out], .pointer (some ⟨b, 0, none⟩)] w (InputsPost w b t l) := by
  obtain ⟨hs, hby, hd, hk, hb⟩ := h
  
  refine calls_of tab tabOk Try.func17 rfl rfl rfl [(0, boxL b)] (fun _ => boxL b) [.agg [.c (.slice gb l.length gc), .c (.int .i64 out)], .lp 0 0 0 0] _ (restA w b) 1 (by simp [SV.rfs, SV.rf, boxL, add_none]) rfl (by show 2 ≤ _; decide) (abs_box hb) ?_
  (repeat' ((conv => whnf) <;> first | (show drawK _ 10 _ _ _ _ _ _; (refine draw_tree tabOk mixed [] _ (.take 0 (.take 1 (.take 2 (.take 3 (.take 4 (.take 5 (.take 6 (.take 7 (.take 8 (.take 9 (.one 10 (.take 11 (.one 12 (.one 13 (.take 14 (.done)))))))))))))))) (by kernel_rfl) (by kernel_rfl) (by kernel_rfl) (List.Sublist.refl _) ?_)) | (show Wp _ _ _ _ _ _ _; (refine Wp.go tabOk rfl ?_)) | (show @cmpK _ _ _; (first | refine cmp_yes (by omega) ?_ | refine cmp_no (by omega) ?_ | (refine cmp_both ?_ ?_ <;> intro _))) | (show wrapK _ _ _; (refine wrap_i64 (by omega) (by omega) ?_)) | (show leK _ _ _; (refine le_of (by first | exact Nat.le_refl _ | omega) ?_)) | (show roomK _ _ _; (refine room_of (by first | omega | (dsimp only; omega)) ?_)) | (show ltK _ _ _; (refine lt_of (by omega) ?_)) | (show _ ∧ _; (refine ⟨?_, ?_⟩)) | (show keepK _ _ _ _ _; (refine keep_of (by first | exact List.Sublist.refl _ | exact List.Sublist.cons _ (List.Sublist.refl _) | exact List.Sublist.cons _ (List.Sublist.cons _ (List.Sublist.refl _)) | exact List.Sublist.cons _ (List.Sublist.cons _ (List.Sublist.cons _ (List.Sublist.refl _)))) (by first | exact (fun _ _ h => h) | exact (fun _ _ h => h.1) | exact (fun _ _ h => h.1.1)) ?_)) | (show ownK _ _ _ _ _; (refine own_keep ?_))))
  refine Wp.loop (σ := Nat × Nat × Nat × List IntsV) 3 (fun ⟨i, _, m, us⟩ => [(1, .lp 0 0 0 0), (2, .lp 1 0 0 0), (5, .os 2 m), (11, .c (.slice gb l.length gc)), (12, .c (.int .i64 l.length)), (13, .c (.int .i64 i))]) (fun ⟨_, k, _, us⟩ => [(2, .rows (shRows us) 1 33), (1, .box [.c (.slice gb l.length gc), .c (.int .i64 out)] 26), (0, .box (cs (tcells t k)) 30)]) (fun ⟨_, _, _, us⟩ => (restA w b).and (eachA w.heap.size us))
    (fun ⟨i, k, m, us⟩ => i ≤ l.length ∧ k ≤ t.bs.length ∧ goodIn (l.take i) (us.map IntsV.xs) ∧ (∀ u ∈ us, u.sane) ∧ us.length ≤ i ∧ m = us.length) (fun s => l.length - s.1) (0, k, 0, []) [(2, none)] (by decide) (fun s => ⟨rfl, rfl⟩) ⟨Nat.zero_le _, hk, rfl, fun u hu => by simp at hu, Nat.le_refl _, rfl⟩ ⟨rfl, ⟨rfl, rfl, rfl, rfl, rfl, rfl, trivial⟩, ⟨rfl, (by repeat (first | exact List.mem_cons_self | apply List.mem_cons_of_mem)), (by repeat (first | exact List.mem_cons_self | apply List.mem_cons_of_mem)), trivial⟩, fun R w' h => ⟨h, eachA_nil _ R w'⟩⟩ ?_
  rintro ⟨i, k, m, us⟩ ⟨hi, hk, hg, hus, huf, hml⟩
  subst hml
  by_cases hlt : i < l.length
  · obtain ⟨a, ha⟩ : ∃ a, gb = some a := base_some (j := i) (rowsA_in hr) (by rw [nodeRows_length]; omega)
    have hnm := List.getElem_mem hlt
    have htk := List.take_succ_eq_append_getElem hlt
    have hrow := nodeRows_get hlt
    generalize l[i] = n at *
    have hnn := hn n hnm
    obtain ⟨⟨lo1, lo2⟩, ⟨hi1, hi2⟩, hlh⟩ := hnn.near
    by_cases hk1 : n.kind = 1
    · (repeat' ((conv => whnf) <;> first | (show idxK _ _ _ _ _; (refine idx_of a i ha rfl hlt ?_)) | (show roAggK _ _ _ _; (refine roAgg_row (fun R w' h => by rw [← ha]; exact rowsA_in (rest_holds hr h.1)) _ hrow rfl ?_)) | (show drawK _ 10 _ _ _ _ _ _; (refine draw_tree tabOk mixed [] _ (.take 0 (.take 1 (.take 2 (.take 3 (.take 4 (.take 5 (.take 6 (.take 7 (.take 8 (.take 9 (.one 10 (.take 11 (.one 12 (.one 13 (.take 14 (.done)))))))))))))))) (by kernel_rfl) (by kernel_rfl) (by kernel_rfl) (List.Sublist.refl _) ?_)) | (show Wp _ _ _ _ _ _ _; (refine Wp.go tabOk rfl ?_)) | (show @cmpK _ _ _; (first | refine cmp_yes (by omega) ?_ | refine cmp_no (by omega) ?_ | (refine cmp_both ?_ ?_ <;> intro _))) | (show wrapK _ _ _; (refine wrap_i64 (by omega) (by omega) ?_)) | (show leK _ _ _; (refine le_of (by first | exact Nat.le_refl _ | omega) ?_)) | (show roomK _ _ _; (refine room_of (by first | omega | (dsimp only; omega)) ?_)) | (show ltK _ _ _; (refine lt_of (by omega) ?_)) | (show _ ∧ _; (refine ⟨?_, ?_⟩)) | (show keepK _ _ _ _ _; (refine keep_of (by first | exact List.Sublist.refl _ | exact List.Sublist.cons _ (List.Sublist.refl _) | exact List.Sublist.cons _ (List.Sublist.cons _ (List.Sublist.refl _)) | exact List.Sublist.cons _ (List.Sublist.cons _ (List.Sublist.cons _ (List.Sublist.refl _)))) (by first | exact (fun _ _ h => h) | exact (fun _ _ h => h.1) | exact (fun _ _ h => h.1.1)) ?_)) | (show ownK _ _ _ _ _; (refine own_keep ?_))))
      refine Wp.loop (σ := Nat × Nat × List Int) 5 (fun ⟨j, _, xs⟩ => [(1, .lp 0 0 0 0), (2, .lp 1 0 0 0), (5, .os 2 us.length), (7, .lp 3 0 0 0), (8, .os 4 j), (9, .c (.int .i64 j)), (11, .c (.slice gb l.length gc)), (12, .c (.int .i64 l.length)), (13, .c (.int .i64 i))]) (fun ⟨_, k, xs⟩ => [(4, .rows (ints xs) 1 3), (3, .box (cs n.cells) 38), (2, .rows (shRows us) 1 33), (1, .box [.c (.slice gb l.length gc), .c (.int .i64 out)] 26), (0, .box (cs (tcells t k)) 30)]) (fun _ => (restA w b).and (eachA w.heap.size us))
        (fun ⟨j, k, xs⟩ => (j : Int) ≤ entries n.shape.xs ∧ k ≤ t.bs.length ∧ xs.length = j ∧ ∀ v ∈ xs, n.lo ≤ v ∧ v ≤ n.hi) (fun s => (entries n.shape.xs).toNat - s.1) (0, k, []) [(4, none)] (by decide) (fun s => ⟨rfl, rfl⟩) ⟨(entries_bd _).1, hk, rfl, fun x hx => by simp at hx⟩ ⟨rfl, ⟨rfl, rfl, rfl, rfl, rfl, rfl, rfl, rfl, rfl, trivial⟩, ⟨rfl, (by repeat (first | exact List.mem_cons_self | apply List.mem_cons_of_mem)), (by repeat (first | exact List.mem_cons_self | apply List.mem_cons_of_mem)), (by repeat (first | exact List.mem_cons_self | apply List.mem_cons_of_mem)), (by repeat (first | exact List.mem_cons_self | apply List.mem_cons_of_mem)), trivial⟩, fun R w' h => h⟩ ?_
      rintro ⟨j, k, xs⟩ ⟨hj, hk, hl, hxs⟩
      have heb := (entries_bd n.shape.xs).2
      subst hl
      by_cases hjl : (xs.length : Int) < entries n.shape.xs
      · (repeat' ((conv => whnf) <;> first | (show callK _ 34 _ _ _ _ _; (refine call_pure (f := 34) Try.call34 (.int .i64 (entries n.shape.xs)) (fun ρ w' hw => refEntries_any w' n.shape.base n.shape.cap n.shape.xs (holds_of_abs hw fun R h => rowsA_in (((rest_holds hnd h.1) n hnm).1 rfl))) ?_)) | (show callK _ 41 _ _ _ _ _; (refine call_num (f := 41) [.int .i64 (n.hi - n.lo + 1)] t k _ (by repeat (first | exact List.mem_cons_self | apply List.mem_cons_of_mem)) Try.call41 hs hby hk (fun R w' h => rest_holds hd h.1) (fun w' b' ht => next_le w' b' t k ht (n.hi - n.lo + 1) (n.hi - n.lo) ⟨by omega, by omega⟩ rfl) (fun r k' hr hk' => ?_))) | (show drawK _ 10 _ _ _ _ _ _; (refine draw_tree tabOk mixed [] [] (.take 0 (.take 3 (.alt 1 (.alt 2 (.alt 4 (.alt 5 (.one 6 (.one 7 (.take 8 (.take 9 (.one 10 (.take 11 (.one 12 (.one 13 (.take 14 (.done)))))))))) (.one 6 (.alt 5 (.one 7 (.take 8 (.take 9 (.one 10 (.take 11 (.one 12 (.one 13 (.take 14 (.done))))))))) (.one 7 (.one 5 (.take 8 (.take 9 (.one 10 (.take 11 (.one 12 (.one 13 (.take 14 (.done))))))))))))) (.one 6 (.alt 4 (.alt 5 (.one 7 (.take 8 (.take 9 (.one 10 (.take 11 (.one 12 (.one 13 (.take 14 (.done))))))))) (.one 7 (.one 5 (.take 8 (.take 9 (.one 10 (.take 11 (.one 12 (.one 13 (.take 14 (.done))))))))))) (.one 7 (.one 4 (.one 5 (.take 8 (.take 9 (.one 10 (.take 11 (.one 12 (.one 13 (.take 14 (.done)))))))))))))) (.alt 4 (.alt 2 (.alt 5 (.one 6 (.one 7 (.take 8 (.take 9 (.one 10 (.take 11 (.one 12 (.one 13 (.take 14 (.done)))))))))) (.one 6 (.alt 5 (.one 7 (.take 8 (.take 9 (.one 10 (.take 11 (.one 12 (.one 13 (.take 14 (.done))))))))) (.one 7 (.one 5 (.take 8 (.take 9 (.one 10 (.take 11 (.one 12 (.one 13 (.take 14 (.done))))))))))))) (.alt 5 (.alt 2 (.one 6 (.one 7 (.take 8 (.take 9 (.one 10 (.take 11 (.one 12 (.one 13 (.take 14 (.done)))))))))) (.one 6 (.alt 2 (.one 7 (.take 8 (.take 9 (.one 10 (.take 11 (.one 12 (.one 13 (.take 14 (.done))))))))) (.one 7 (.take 8 (.take 9 (.alt 2 (.one 10 (.take 11 (.one 12 (.one 13 (.take 14 (.done)))))) (.one 10 (.one 2 (.take 11 (.one 12 (.one 13 (.take 14 (.done)))))))))))))) (.one 6 (.alt 2 (.alt 5 (.one 7 (.take 8 (.take 9 (.one 10 (.take 11 (.one 12 (.one 13 (.take 14 (.done))))))))) (.one 7 (.one 5 (.take 8 (.take 9 (.one 10 (.take 11 (.one 12 (.one 13 (.take 14 (.done))))))))))) (.alt 5 (.alt 2 (.one 7 (.take 8 (.take 9 (.one 10 (.take 11 (.one 12 (.one 13 (.take 14 (.done))))))))) (.one 7 (.take 8 (.take 9 (.alt 2 (.one 10 (.take 11 (.one 12 (.one 13 (.take 14 (.done)))))) (.one 10 (.one 2 (.take 11 (.one 12 (.one 13 (.take 14 (.done)))))))))))) (.one 7 (.alt 2 (.one 5 (.take 8 (.take 9 (.one 10 (.take 11 (.one 12 (.one 13 (.take 14 (.done))))))))) (.one 5 (.take 8 (.take 9 (.alt 2 (.one 10 (.take 11 (.one 12 (.one 13 (.take 14 (.done)))))) (.one 10 (.one 2 (.take 11 (.one 12 (.one 13 (.take 14 (.done)))))))))))))))))) (.one 6 (.alt 2 (.alt 4 (.alt 5 (.one 7 (.take 8 (.take 9 (.one 10 (.take 11 (.one 12 (.one 13 (.take 14 (.done))))))))) (.one 7 (.one 5 (.take 8 (.take 9 (.one 10 (.take 11 (.one 12 (.one 13 (.take 14 (.done))))))))))) (.one 7 (.one 4 (.one 5 (.take 8 (.take 9 (.one 10 (.take 11 (.one 12 (.one 13 (.take 14 (.done)))))))))))) (.alt 4 (.alt 2 (.alt 5 (.one 7 (.take 8 (.take 9 (.one 10 (.take 11 (.one 12 (.one 13 (.take 14 (.done))))))))) (.one 7 (.one 5 (.take 8 (.take 9 (.one 10 (.take 11 (.one 12 (.one 13 (.take 14 (.done))))))))))) (.alt 5 (.alt 2 (.one 7 (.take 8 (.take 9 (.one 10 (.take 11 (.one 12 (.one 13 (.take 14 (.done))))))))) (.one 7 (.take 8 (.take 9 (.alt 2 (.one 10 (.take 11 (.one 12 (.one 13 (.take 14 (.done)))))) (.one 10 (.one 2 (.take 11 (.one 12 (.one 13 (.take 14 (.done)))))))))))) (.one 7 (.alt 2 (.one 5 (.take 8 (.take 9 (.one 10 (.take 11 (.one 12 (.one 13 (.take 14 (.done))))))))) (.one 5 (.take 8 (.take 9 (.alt 2 (.one 10 (.take 11 (.one 12 (.one 13 (.take 14 (.done)))))) (.one 10 (.one 2 (.take 11 (.one 12 (.one 13 (.take 14 (.done))))))))))))))) (.one 7 (.alt 2 (.one 4 (.one 5 (.take 8 (.take 9 (.one 10 (.take 11 (.one 12 (.one 13 (.take 14 (.done)))))))))) (.one 4 (.alt 2 (.one 5 (.take 8 (.take 9 (.one 10 (.take 11 (.one 12 (.one 13 (.take 14 (.done))))))))) (.one 5 (.take 8 (.take 9 (.alt 2 (.one 10 (.take 11 (.one 12 (.one 13 (.take 14 (.done)))))) (.one 10 (.one 2 (.take 11 (.one 12 (.one 13 (.take 14 (.done)))))))))))))))))))) (.alt 4 (.alt 1 (.alt 2 (.alt 5 (.one 6 (.one 7 (.take 8 (.take 9 (.one 10 (.take 11 (.one 12 (.one 13 (.take 14 (.done)))))))))) (.one 6 (.alt 5 (.one 7 (.take 8 (.take 9 (.one 10 (.take 11 (.one 12 (.one 13 (.take 14 (.done))))))))) (.one 7 (.one 5 (.take 8 (.take 9 (.one 10 (.take 11 (.one 12 (.one 13 (.take 14 (.done))))))))))))) (.alt 5 (.alt 2 (.one 6 (.one 7 (.take 8 (.take 9 (.one 10 (.take 11 (.one 12 (.one 13 (.take 14 (.done)))))))))) (.one 6 (.alt 2 (.one 7 (.take 8 (.take 9 (.one 10 (.take 11 (.one 12 (.one 13 (.take 14 (.done))))))))) (.one 7 (.take 8 (.take 9 (.alt 2 (.one 10 (.take 11 (.one 12 (.one 13 (.take 14 (.done)))))) (.one 10 (.one 2 (.take 11 (.one 12 (.one 13 (.take 14 (.done)))))))))))))) (.one 6 (.alt 2 (.alt 5 (.one 7 (.take 8 (.take 9 (.one 10 (.take 11 (.one 12 (.one 13 (.take 14 (.done))))))))) (.one 7 (.one 5 (.take 8 (.take 9 (.one 10 (.take 11 (.one 12 (.one 13 (.take 14 (.done))))))))))) (.alt 5 (.alt 2 (.one 7 (.take 8 (.take 9 (.one 10 (.take 11 (.one 12 (.one 13 (.take 14 (.done))))))))) (.one 7 (.take 8 (.take 9 (.alt 2 (.one 10 (.take 11 (.one 12 (.one 13 (.take 14 (.done)))))) (.one 10 (.one 2 (.take 11 (.one 12 (.one 13 (.take 14 (.done)))))))))))) (.one 7 (.alt 2 (.one 5 (.take 8 (.take 9 (.one 10 (.take 11 (.one 12 (.one 13 (.take 14 (.done))))))))) (.one 5 (.take 8 (.take 9 (.alt 2 (.one 10 (.take 11 (.one 12 (.one 13 (.take 14 (.done)))))) (.one 10 (.one 2 (.take 11 (.one 12 (.one 13 (.take 14 (.done)))))))))))))))))) (.alt 5 (.alt 1 (.alt 2 (.one 6 (.one 7 (.take 8 (.take 9 (.one 10 (.take 11 (.one 12 (.one 13 (.take 14 (.done)))))))))) (.one 6 (.alt 2 (.one 7 (.take 8 (.take 9 (.one 10 (.take 11 (.one 12 (.one 13 (.take 14 (.done))))))))) (.one 7 (.take 8 (.take 9 (.alt 2 (.one 10 (.take 11 (.one 12 (.one 13 (.take 14 (.done)))))) (.one 10 (.one 2 (.take 11 (.one 12 (.one 13 (.take 14 (.done)))))))))))))) (.one 6 (.alt 1 (.alt 2 (.one 7 (.take 8 (.take 9 (.one 10 (.take 11 (.one 12 (.one 13 (.take 14 (.done))))))))) (.one 7 (.take 8 (.take 9 (.alt 2 (.one 10 (.take 11 (.one 12 (.one 13 (.take 14 (.done)))))) (.one 10 (.one 2 (.take 11 (.one 12 (.one 13 (.take 14 (.done)))))))))))) (.one 7 (.take 8 (.take 9 (.alt 1 (.alt 2 (.one 10 (.take 11 (.one 12 (.one 13 (.take 14 (.done)))))) (.one 10 (.one 2 (.take 11 (.one 12 (.one 13 (.take 14 (.done)))))))) (.one 10 (.one 1 (.one 2 (.take 11 (.one 12 (.one 13 (.take 14 (.done))))))))))))))) (.one 6 (.alt 1 (.alt 2 (.alt 5 (.one 7 (.take 8 (.take 9 (.one 10 (.take 11 (.one 12 (.one 13 (.take 14 (.done))))))))) (.one 7 (.one 5 (.take 8 (.take 9 (.one 10 (.take 11 (.one 12 (.one 13 (.take 14 (.done))))))))))) (.alt 5 (.alt 2 (.one 7 (.take 8 (.take 9 (.one 10 (.take 11 (.one 12 (.one 13 (.take 14 (.done))))))))) (.one 7 (.take 8 (.take 9 (.alt 2 (.one 10 (.take 11 (.one 12 (.one 13 (.take 14 (.done)))))) (.one 10 (.one 2 (.take 11 (.one 12 (.one 13 (.take 14 (.done)))))))))))) (.one 7 (.alt 2 (.one 5 (.take 8 (.take 9 (.one 10 (.take 11 (.one 12 (.one 13 (.take 14 (.done))))))))) (.one 5 (.take 8 (.take 9 (.alt 2 (.one 10 (.take 11 (.one 12 (.one 13 (.take 14 (.done)))))) (.one 10 (.one 2 (.take 11 (.one 12 (.one 13 (.take 14 (.done))))))))))))))) (.alt 5 (.alt 1 (.alt 2 (.one 7 (.take 8 (.take 9 (.one 10 (.take 11 (.one 12 (.one 13 (.take 14 (.done))))))))) (.one 7 (.take 8 (.take 9 (.alt 2 (.one 10 (.take 11 (.one 12 (.one 13 (.take 14 (.done)))))) (.one 10 (.one 2 (.take 11 (.one 12 (.one 13 (.take 14 (.done)))))))))))) (.one 7 (.take 8 (.take 9 (.alt 1 (.alt 2 (.one 10 (.take 11 (.one 12 (.one 13 (.take 14 (.done)))))) (.one 10 (.one 2 (.take 11 (.one 12 (.one 13 (.take 14 (.done)))))))) (.one 10 (.one 1 (.one 2 (.take 11 (.one 12 (.one 13 (.take 14 (.done))))))))))))) (.one 7 (.alt 1 (.alt 2 (.one 5 (.take 8 (.take 9 (.one 10 (.take 11 (.one 12 (.one 13 (.take 14 (.done))))))))) (.one 5 (.take 8 (.take 9 (.alt 2 (.one 10 (.take 11 (.one 12 (.one 13 (.take 14 (.done)))))) (.one 10 (.one 2 (.take 11 (.one 12 (.one 13 (.take 14 (.done)))))))))))) (.one 5 (.take 8 (.take 9 (.alt 1 (.alt 2 (.one 10 (.take 11 (.one 12 (.one 13 (.take 14 (.done)))))) (.one 10 (.one 2 (.take 11 (.one 12 (.one 13 (.take 14 (.done)))))))) (.one 10 (.one 1 (.one 2 (.take 11 (.one 12 (.one 13 (.take 14 (.done))))))))))))))))))) (.one 6 (.alt 1 (.alt 2 (.alt 4 (.alt 5 (.one 7 (.take 8 (.take 9 (.one 10 (.take 11 (.one 12 (.one 13 (.take 14 (.done))))))))) (.one 7 (.one 5 (.take 8 (.take 9 (.one 10 (.take 11 (.one 12 (.one 13 (.take 14 (.done))))))))))) (.one 7 (.one 4 (.one 5 (.take 8 (.take 9 (.one 10 (.take 11 (.one 12 (.one 13 (.take 14 (.done)))))))))))) (.alt 4 (.alt 2 (.alt 5 (.one 7 (.take 8 (.take 9 (.one 10 (.take 11 (.one 12 (.one 13 (.take 14 (.done))))))))) (.one 7 (.one 5 (.take 8 (.take 9 (.one 10 (.take 11 (.one 12 (.one 13 (.take 14 (.done))))))))))) (.alt 5 (.alt 2 (.one 7 (.take 8 (.take 9 (.one 10 (.take 11 (.one 12 (.one 13 (.take 14 (.done))))))))) (.one 7 (.take 8 (.take 9 (.alt 2 (.one 10 (.take 11 (.one 12 (.one 13 (.take 14 (.done)))))) (.one 10 (.one 2 (.take 11 (.one 12 (.one 13 (.take 14 (.done)))))))))))) (.one 7 (.alt 2 (.one 5 (.take 8 (.take 9 (.one 10 (.take 11 (.one 12 (.one 13 (.take 14 (.done))))))))) (.one 5 (.take 8 (.take 9 (.alt 2 (.one 10 (.take 11 (.one 12 (.one 13 (.take 14 (.done)))))) (.one 10 (.one 2 (.take 11 (.one 12 (.one 13 (.take 14 (.done))))))))))))))) (.one 7 (.alt 2 (.one 4 (.one 5 (.take 8 (.take 9 (.one 10 (.take 11 (.one 12 (.one 13 (.take 14 (.done)))))))))) (.one 4 (.alt 2 (.one 5 (.take 8 (.take 9 (.one 10 (.take 11 (.one 12 (.one 13 (.take 14 (.done))))))))) (.one 5 (.take 8 (.take 9 (.alt 2 (.one 10 (.take 11 (.one 12 (.one 13 (.take 14 (.done)))))) (.one 10 (.one 2 (.take 11 (.one 12 (.one 13 (.take 14 (.done))))))))))))))))) (.alt 4 (.alt 1 (.alt 2 (.alt 5 (.one 7 (.take 8 (.take 9 (.one 10 (.take 11 (.one 12 (.one 13 (.take 14 (.done))))))))) (.one 7 (.one 5 (.take 8 (.take 9 (.one 10 (.take 11 (.one 12 (.one 13 (.take 14 (.done))))))))))) (.alt 5 (.alt 2 (.one 7 (.take 8 (.take 9 (.one 10 (.take 11 (.one 12 (.one 13 (.take 14 (.done))))))))) (.one 7 (.take 8 (.take 9 (.alt 2 (.one 10 (.take 11 (.one 12 (.one 13 (.take 14 (.done)))))) (.one 10 (.one 2 (.take 11 (.one 12 (.one 13 (.take 14 (.done)))))))))))) (.one 7 (.alt 2 (.one 5 (.take 8 (.take 9 (.one 10 (.take 11 (.one 12 (.one 13 (.take 14 (.done))))))))) (.one 5 (.take 8 (.take 9 (.alt 2 (.one 10 (.take 11 (.one 12 (.one 13 (.take 14 (.done)))))) (.one 10 (.one 2 (.take 11 (.one 12 (.one 13 (.take 14 (.done))))))))))))))) (.alt 5 (.alt 1 (.alt 2 (.one 7 (.take 8 (.take 9 (.one 10 (.take 11 (.one 12 (.one 13 (.take 14 (.done))))))))) (.one 7 (.take 8 (.take 9 (.alt 2 (.one 10 (.take 11 (.one 12 (.one 13 (.take 14 (.done)))))) (.one 10 (.one 2 (.take 11 (.one 12 (.one 13 (.take 14 (.done)))))))))))) (.one 7 (.take 8 (.take 9 (.alt 1 (.alt 2 (.one 10 (.take 11 (.one 12 (.one 13 (.take 14 (.done)))))) (.one 10 (.one 2 (.take 11 (.one 12 (.one 13 (.take 14 (.done)))))))) (.one 10 (.one 1 (.one 2 (.take 11 (.one 12 (.one 13 (.take 14 (.done))))))))))))) (.one 7 (.alt 1 (.alt 2 (.one 5 (.take 8 (.take 9 (.one 10 (.take 11 (.one 12 (.one 13 (.take 14 (.done))))))))) (.one 5 (.take 8 (.take 9 (.alt 2 (.one 10 (.take 11 (.one 12 (.one 13 (.take 14 (.done)))))) (.one 10 (.one 2 (.take 11 (.one 12 (.one 13 (.take 14 (.done)))))))))))) (.one 5 (.take 8 (.take 9 (.alt 1 (.alt 2 (.one 10 (.take 11 (.one 12 (.one 13 (.take 14 (.done)))))) (.one 10 (.one 2 (.take 11 (.one 12 (.one 13 (.take 14 (.done)))))))) (.one 10 (.one 1 (.one 2 (.take 11 (.one 12 (.one 13 (.take 14 (.done)))))))))))))))) (.one 7 (.alt 1 (.alt 2 (.one 4 (.one 5 (.take 8 (.take 9 (.one 10 (.take 11 (.one 12 (.one 13 (.take 14 (.done)))))))))) (.one 4 (.alt 2 (.one 5 (.take 8 (.take 9 (.one 10 (.take 11 (.one 12 (.one 13 (.take 14 (.done))))))))) (.one 5 (.take 8 (.take 9 (.alt 2 (.one 10 (.take 11 (.one 12 (.one 13 (.take 14 (.done)))))) (.one 10 (.one 2 (.take 11 (.one 12 (.one 13 (.take 14 (.done)))))))))))))) (.one 4 (.alt 1 (.alt 2 (.one 5 (.take 8 (.take 9 (.one 10 (.take 11 (.one 12 (.one 13 (.take 14 (.done))))))))) (.one 5 (.take 8 (.take 9 (.alt 2 (.one 10 (.take 11 (.one 12 (.one 13 (.take 14 (.done)))))) (.one 10 (.one 2 (.take 11 (.one 12 (.one 13 (.take 14 (.done)))))))))))) (.one 5 (.take 8 (.take 9 (.alt 1 (.alt 2 (.one 10 (.take 11 (.one 12 (.one 13 (.take 14 (.done)))))) (.one 10 (.one 2 (.take 11 (.one 12 (.one 13 (.take 14 (.done)))))))) (.one 10 (.one 1 (.one 2 (.take 11 (.one 12 (.one 13 (.take 14 (.done))))))))))))))))))))))) (by kernel_rfl) (by kernel_rfl) (by kernel_rfl) (List.nil_sublist _) ?_)) | (show keepK _ _ _ _ _; (refine keep_of (List.nil_sublist _) (fun _ _ h => h) ?_)) | (show leK _ _ _; (refine le_of (by rw [ints_length]; exact Nat.le_refl _) ?_)) | (show roomK _ _ _; (refine room_of (by show (xs.length + 1) * 8 ≤ 140737488355328; omega) ?_)) | (show Wp _ _ _ _ _ _ _; (refine Wp.go tabOk rfl ?_)) | (show @cmpK _ _ _; (first | refine cmp_yes (by omega) ?_ | refine cmp_no (by omega) ?_ | (refine cmp_both ?_ ?_ <;> intro _))) | (show wrapK _ _ _; (refine wrap_i64 (by omega) (by omega) ?_)) | (show leK _ _ _; (refine le_of (by first | exact Nat.le_refl _ | omega) ?_)) | (show roomK _ _ _; (refine room_of (by first | omega | (dsimp only; omega)) ?_)) | (show ltK _ _ _; (refine lt_of (by omega) ?_)) | (show _ ∧ _; (refine ⟨?_, ?_⟩)) | (show keepK _ _ _ _ _; (refine keep_of (by first | exact List.Sublist.refl _ | exact List.Sublist.cons _ (List.Sublist.refl _) | exact List.Sublist.cons _ (List.Sublist.cons _ (List.Sublist.refl _)) | exact List.Sublist.cons _ (List.Sublist.cons _ (List.Sublist.cons _ (List.Sublist.refl _)))) (by first | exact (fun _ _ h => h) | exact (fun _ _ h => h.1) | exact (fun _ _ h => h.1.1)) ?_)) | (show ownK _ _ _ _ _; (refine own_keep ?_))))
        all_goals (conv => whnf)
        all_goals exact ⟨(xs.length + 1, k', xs ++ [n.lo + r]), [(4, some 6)], ⟨by show ((xs.length + 1 : Nat) : Int) ≤ _; omega, hk', by simp, fun x hx => by
          rcases List.mem_append.1 hx with h | h
          · exact hxs x h
          · rw [List.mem_singleton.1 h]; omega⟩, by simp only; omega, rfl, ⟨rfl, rfl, rfl, rfl, rfl, rfl, rfl, rfl, rfl, trivial⟩, ⟨ints_snoc xs _, (by repeat (first | exact List.mem_cons_self | apply List.mem_cons_of_mem)), (by repeat (first | exact List.mem_cons_self | apply List.mem_cons_of_mem)), (by repeat (first | exact List.mem_cons_self | apply List.mem_cons_of_mem)), (by repeat (first | exact List.mem_cons_self | apply List.mem_cons_of_mem)), trivial⟩, fun R w' h => h⟩
      · refine Wp.freezeB 4 w.heap.size (k := 1) (xs := ints xs) (T := 3) (b0 := b) (cells := cs (tcells t k)) (T0 := 30) List.mem_cons_self (by repeat (first | exact List.mem_cons_self | apply List.mem_cons_of_mem)) (by repeat (first | exact List.mem_cons_self | apply List.mem_cons_of_mem)) (by decide) (fun R w' h x hx hne => (h.1 x ⟨hx, hne⟩).1) (fun l1 hl1 => ?_)
        (repeat' ((conv => whnf) <;> first | (show callK _ 34 _ _ _ _ _; (refine call_pure (f := 34) Try.call34 (.int .i64 (entries n.shape.xs)) (fun ρ w' hw => refEntries_any w' n.shape.base n.shape.cap n.shape.xs (holds_of_abs hw fun R h => rowsA_in (((rest_holds hnd h.1.1) n hnm).1 rfl))) ?_)) | (show leK _ _ _; (refine le_of (by rw [shRows_length]; exact Nat.le_refl _) ?_)) | (show roomK _ _ _; (refine room_of (by show (us.length + 1) * 24 ≤ 140737488355328; omega) ?_)) | (show drawK _ 10 _ _ _ _ _ _; (refine draw_tree tabOk mixed [] _ (.take 0 (.take 1 (.take 2 (.take 3 (.take 4 (.take 5 (.take 6 (.take 7 (.take 8 (.take 9 (.one 10 (.take 11 (.one 12 (.one 13 (.take 14 (.done)))))))))))))))) (by kernel_rfl) (by kernel_rfl) (by kernel_rfl) (List.Sublist.refl _) ?_)) | (show Wp _ _ _ _ _ _ _; (refine Wp.go tabOk rfl ?_)) | (show @cmpK _ _ _; (first | refine cmp_yes (by omega) ?_ | refine cmp_no (by omega) ?_ | (refine cmp_both ?_ ?_ <;> intro _))) | (show wrapK _ _ _; (refine wrap_i64 (by omega) (by omega) ?_)) | (show leK _ _ _; (refine le_of (by first | exact Nat.le_refl _ | omega) ?_)) | (show roomK _ _ _; (refine room_of (by first | omega | (dsimp only; omega)) ?_)) | (show ltK _ _ _; (refine lt_of (by omega) ?_)) | (show _ ∧ _; (refine ⟨?_, ?_⟩)) | (show keepK _ _ _ _ _; (refine keep_of (by first | exact List.Sublist.refl _ | exact List.Sublist.cons _ (List.Sublist.refl _) | exact List.Sublist.cons _ (List.Sublist.cons _ (List.Sublist.refl _)) | exact List.Sublist.cons _ (List.Sublist.cons _ (List.Sublist.cons _ (List.Sublist.refl _)))) (by first | exact (fun _ _ h => h) | exact (fun _ _ h => h.1) | exact (fun _ _ h => h.1.1)) ?_)) | (show ownK _ _ _ _ _; (refine own_keep ?_))))
        all_goals (conv => whnf)
        all_goals exact ⟨(i + 1, k, us.length + 1, us ++ [IntsV.mk l1.base l1.cap xs]), [(2, some 6)], ⟨hlt, hk, by rw [htk, List.map_append]; exact goodIn_next hk1 ⟨by show (xs.length : Int) = _; omega, hxs⟩ hg, fun u hu => by
          rcases List.mem_append.1 hu with h | h
          · exact hus u h
          · rw [List.mem_singleton.1 h]
            exact ⟨fun x hx => by have := hxs x hx; omega, by simpa [ints_length] using hl1, by show xs.length ≤ _; omega⟩, by rw [List.length_append, List.length_singleton]; omega, by simp⟩, by simp only; omega, rfl, ⟨rfl, rfl, rfl, rfl, rfl, rfl, trivial⟩, ⟨rows_snoc us (IntsV.mk l1.base l1.cap xs), (by repeat (first | exact List.mem_cons_self | apply List.mem_cons_of_mem)), (by repeat (first | exact List.mem_cons_self | apply List.mem_cons_of_mem)), trivial⟩, fun R w' h => ⟨h.1.1, eachA_snoc (u := IntsV.mk l1.base l1.cap xs) h.1.2 h.2⟩⟩
    · (repeat' ((conv => whnf) <;> first | (show idxK _ _ _ _ _; (refine idx_of a i ha rfl hlt ?_)) | (show roAggK _ _ _ _; (refine roAgg_row (fun R w' h => by rw [← ha]; exact rowsA_in (rest_holds hr h.1)) _ hrow rfl ?_)) | (show drawK _ 10 _ _ _ _ _ _; (refine draw_tree tabOk mixed [] _ (.take 0 (.take 1 (.take 2 (.take 3 (.take 4 (.take 5 (.take 6 (.take 7 (.take 8 (.take 9 (.one 10 (.take 11 (.one 12 (.one 13 (.take 14 (.done)))))))))))))))) (by kernel_rfl) (by kernel_rfl) (by kernel_rfl) (List.Sublist.refl _) ?_)) | (show Wp _ _ _ _ _ _ _; (refine Wp.go tabOk rfl ?_)) | (show @cmpK _ _ _; (first | refine cmp_yes (by omega) ?_ | refine cmp_no (by omega) ?_ | (refine cmp_both ?_ ?_ <;> intro _))) | (show wrapK _ _ _; (refine wrap_i64 (by omega) (by omega) ?_)) | (show leK _ _ _; (refine le_of (by first | exact Nat.le_refl _ | omega) ?_)) | (show roomK _ _ _; (refine room_of (by first | omega | (dsimp only; omega)) ?_)) | (show ltK _ _ _; (refine lt_of (by omega) ?_)) | (show _ ∧ _; (refine ⟨?_, ?_⟩)) | (show keepK _ _ _ _ _; (refine keep_of (by first | exact List.Sublist.refl _ | exact List.Sublist.cons _ (List.Sublist.refl _) | exact List.Sublist.cons _ (List.Sublist.cons _ (List.Sublist.refl _)) | exact List.Sublist.cons _ (List.Sublist.cons _ (List.Sublist.cons _ (List.Sublist.refl _)))) (by first | exact (fun _ _ h => h) | exact (fun _ _ h => h.1) | exact (fun _ _ h => h.1.1)) ?_)) | (show ownK _ _ _ _ _; (refine own_keep ?_))))
      all_goals (conv => whnf)
      all_goals exact ⟨(i + 1, k, us.length, us), [], ⟨hlt, hk, by rw [htk]; exact goodIn_skip hk1 hg, hus, by omega, rfl⟩, by simp only; omega, rfl, ⟨rfl, rfl, rfl, rfl, rfl, rfl, trivial⟩, ⟨(by repeat (first | exact List.mem_cons_self | apply List.mem_cons_of_mem)), (by repeat (first | exact List.mem_cons_self | apply List.mem_cons_of_mem)), (by repeat (first | exact List.mem_cons_self | apply List.mem_cons_of_mem)), trivial⟩, fun _ _ h => h⟩
  · obtain rfl : i = l.length := by omega
    rw [List.take_of_length_le (Nat.le_refl _)] at hg
    (repeat' ((conv => whnf) <;> first | (show drawK _ 10 _ _ _ _ _ _; (refine draw_tree tabOk mixed [] _ (.take 0 (.take 1 (.take 2 (.take 3 (.take 4 (.take 5 (.take 6 (.take 7 (.take 8 (.take 9 (.one 10 (.take 11 (.one 12 (.one 13 (.take 14 (.done)))))))))))))))) (by kernel_rfl) (by kernel_rfl) (by kernel_rfl) (List.Sublist.refl _) ?_)) | (show Wp _ _ _ _ _ _ _; (refine Wp.go tabOk rfl ?_)) | (show @cmpK _ _ _; (first | refine cmp_yes (by omega) ?_ | refine cmp_no (by omega) ?_ | (refine cmp_both ?_ ?_ <;> intro _))) | (show wrapK _ _ _; (refine wrap_i64 (by omega) (by omega) ?_)) | (show leK _ _ _; (refine le_of (by first | exact Nat.le_refl _ | omega) ?_)) | (show roomK _ _ _; (refine room_of (by first | omega | (dsimp only; omega)) ?_)) | (show ltK _ _ _; (refine lt_of (by omega) ?_)) | (show _ ∧ _; (refine ⟨?_, ?_⟩)) | (show keepK _ _ _ _ _; (refine keep_of (by first | exact List.Sublist.refl _ | exact List.Sublist.cons _ (List.Sublist.refl _) | exact List.Sublist.cons _ (List.Sublist.cons _ (List.Sublist.refl _)) | exact List.Sublist.cons _ (List.Sublist.cons _ (List.Sublist.cons _ (List.Sublist.refl _)))) (by first | exact (fun _ _ h => h) | exact (fun _ _ h => h.1) | exact (fun _ _ h => h.1.1)) ?_)) | (show ownK _ _ _ _ _; (refine own_keep ?_))))
    all_goals (conv => whnf)
    exact ends_inputs (by repeat (first | exact List.mem_cons_self | apply List.mem_cons_of_mem)) (by repeat (first | exact List.mem_cons_self | apply List.mem_cons_of_mem)) (by decide) rfl hk hg hus huf (fun _ _ h => h.1) (fun _ _ h => h.2)
end Go.Proofs.Ytdmkdogakbipbaa
/- JB -/
namespace Go.Proofs.Ytdmkdogakbipbaa
open Go.SX Go.RowKit
/-! inputs within their spans: every node's numbers are told, and within its span -/
theorem foldl_min_geJ {m : Int} : ∀ (l : List Int) (x : Int), m ≤ x → (∀ y ∈ l, m ≤ y) → m ≤ l.foldl min x
  | [], x, h, _ => h
  | z :: r, x, h, hl => by
    rw [List.foldl_cons]
    have := hl z List.mem_cons_self
    exact foldl_min_geJ r _ (by omega) fun y hy => hl y (List.mem_cons_of_mem _ hy)
theorem foldl_max_leJ {m : Int} : ∀ (l : List Int) (x : Int), x ≤ m → (∀ y ∈ l, y ≤ m) → l.foldl max x ≤ m
  | [], x, h, _ => h
  | z :: r, x, h, hl => by
    rw [List.foldl_cons]
    have := hl z List.mem_cons_self
    exact foldl_max_leJ r _ (by omega) fun y hy => hl y (List.mem_cons_of_mem _ hy)
theorem foldI_ge {l : List Int} {m : Int} (hn : l ≠ []) (h : ∀ y ∈ l, m ≤ y) : m ≤ foldI min l := by
  cases l with
  | nil => exact absurd rfl hn
  | cons x r => exact foldl_min_geJ r x (h x List.mem_cons_self) fun y hy => h y (List.mem_cons_of_mem _ hy)
theorem foldI_le2 {l : List Int} {m : Int} (hn : l ≠ []) (h : ∀ y ∈ l, y ≤ m) : foldI max l ≤ m := by
  cases l with
  | nil => exact absurd rfl hn
  | cons x r => exact foldl_max_leJ r x (h x List.mem_cons_self) fun y hy => h y (List.mem_cons_of_mem _ hy)
def mkI (l : List Int) : IntsV := ⟨none, l.length, l⟩
theorem mkI_sane {l : List Int} (h : ∀ x ∈ l, bd20 x) (hl : l.length ≤ 64) : (mkI l).sane := ⟨fun x hx => by have := h x hx; unfold bd20 at this; show _ ∧ _; omega, Nat.le_refl _, by show l.length ≤ _; omega⟩
theorem vals_run {g : GraphV} (hsp : (spansH g).1 = 0) : ∀ {r : List NodeV} {k : Nat} {kn : List IntsV} {inp : List (List Int)}, k ≤ g.l.length → g.l.drop k = r → KnownH g kn k → goodIn r inp → ∃ kn' : List IntsV, valsQ (check g).2 r (kn.map IntsV.xs) inp = (0, kn'.map IntsV.xs) ∧ KnownH g kn' g.l.length
  | [], k, kn, inp, hk, hr, hkn, hg => by
    simp only [goodIn] at hg
    subst hg
    have : g.l.length ≤ k := List.drop_eq_nil_iff.1 hr
    obtain rfl : k = g.l.length := by omega
    exact ⟨kn, by simp [valsQ], hkn⟩
  | n :: r, k, kn, inp, hk, hr, hkn, hg => by
    obtain ⟨hck, hsl, hsi⟩ := spansH_in hsp
    obtain ⟨hl1, hl24, hout, hcl, hin⟩ := check_in hck
    have hlt : k < g.l.length := by
      rcases Nat.lt_or_ge k g.l.length with h | h
      · exact h
      · rw [List.drop_eq_nil_of_le h] at hr; cases hr
    have hdrop : g.l.drop k = g.l[k] :: g.l.drop (k + 1) := List.drop_eq_getElem_cons hlt
    rw [hdrop] at hr
    have hgk : g.l[k]? = some n := by rw [List.getElem?_eq_getElem hlt]; simp only [List.cons.injEq] at hr; rw [hr.1]
    have hr2 : g.l.drop (k + 1) = r := by simp only [List.cons.injEq] at hr; exact hr.2
    obtain ⟨s, hs, hni⟩ := hin k n hgk
    obtain ⟨p, hp, hpe, hp1, hp2⟩ := hsi k n hgk
    obtain ⟨⟨ha0, hal2, hai⟩, ⟨hb0, hbl2, hbi⟩, cnt, hcnt0, hpl⟩ := place_in hck hgk
    have e1 : (check g).2.getD k [] = s := by rw [List.getD_eq_getElem?_getD, hs]; rfl
    rw [e1] at hcnt0 hpl
    have hcb := (entries_bd s).2
    have hkl := hkn.len
    have hkml : (kn.map IntsV.xs).length = k := by rw [List.length_map, hkl]
    have hti : ((check g).2.take k).length = k := by rw [List.length_take, hcl]; omega
    have hform := hni.form
    rw [hti] at hform
    simp only [goodIn] at hg
    by_cases hk1 : n.kind = 1
    · rw [if_neg (fun h => h hk1)] at hg
      obtain ⟨x, xs, rfl, ⟨hx1, hx2⟩, hg⟩ := hg
      have hsx : s = n.shape.xs := by
        have := hni.shape
        unfold shapeO at this
        rw [if_pos (.inl hk1)] at this
        simpa using this.symm
      have hL : endsAt (check g).2 n ((spansH g).2.take k) = [n.lo, n.hi] := by
        unfold endsAt endsA
        rw [if_neg (by unfold isLin; omega)]
        exact if_pos hk1
      have hwi : within p x := by
        rw [hpe]
        unfold spanAt spanE
        rw [hL]
        intro z hz
        have m1 : foldI min [n.lo, n.hi] = min n.lo n.hi := rfl
        have m2 : foldI max [n.lo, n.hi] = max n.lo n.hi := rfl
        have := hx2 z hz
        simp only [m1, m2]
        omega
      have hxl : x.length ≤ 64 := by rw [← hsx] at hx1; omega
      have hne : x ≠ [] := by
        intro e
        have := hpl.few
        rw [e] at hx1
        rw [← hsx] at hx1
        simp only [List.length_nil] at hx1
        omega
      have hbad : ¬ ((x.length : Int) ≠ entries s ∨ foldI min x < n.lo ∨ n.hi < foldI max x) := by
        rw [hsx]
        have h1 : n.lo ≤ foldI min x := foldI_ge hne fun y hy => (hx2 y hy).1
        have h2 : foldI max x ≤ n.hi := foldI_le2 hne fun y hy => (hx2 y hy).2
        omega
      have hv : valsQ (check g).2 (n :: r) (kn.map IntsV.xs) (x :: xs) = valsQ (check g).2 r (kn.map IntsV.xs ++ [x]) xs := by
        conv => lhs; unfold valsQ
        rw [if_neg (fun h => h hk1)]
        simp only
        rw [hkml, e1, if_neg hbad]
      rw [hv]
      have hkn2 := known_snocH hkn (x := mkI x) (mkI_sane (fun y hy => by have := hwi y hy; unfold bd20; omega) hxl) hp hs hwi (by show (x.length : Int) = _; rw [hsx]; exact hx1)
      have := vals_run hsp (by omega) hr2 hkn2 hg
      rw [List.map_append] at this
      exact this
    · rw [if_pos hk1] at hg
      have kA := known_argH hsp hkn (by omega) n.a.toNat
      have kB := known_argH hsp hkn (by omega) n.b.toNat
      have hnum := num_inH hsp hkn (by omega) (formed_of hform)
      have hpl' : PlaceIn n ((check g).2.take k) s (mkI ((check g).2.getD n.a.toNat [])).xs cnt := hpl
      have hwn := nums_in hpl' hk1 hnum kA.1 kB.1
      have hEq : endsAt (check g).2 n ((spansH g).2.take k) = endsA n cnt (mkI ((check g).2.getD n.a.toNat [])).xs (((spansH g).2.take k).getD n.a.toNat (0, 0)) (((spansH g).2.take k).getD n.b.toNat (0, 0)) := by
        unfold endsAt
        rw [show ((spansH g).2.take k).length = k by rw [List.length_take, hsl]; omega, e1, hcnt0]; rfl
      have hv : valsQ (check g).2 (n :: r) (kn.map IntsV.xs) inp = valsQ (check g).2 r (kn.map IntsV.xs ++ [numsA n cnt (mkI ((check g).2.getD n.a.toNat [])).xs (kn.getD n.a.toNat nilI).xs (kn.getD n.b.toNat nilI).xs]) inp := by
        conv => lhs; unfold valsQ
        unfold numsAt
        rw [if_pos hk1, getD_xs, getD_xs, hkml, e1, hcnt0]; rfl
      rw [hv]
      have hwi : within p (numsA n cnt (mkI ((check g).2.getD n.a.toNat [])).xs (kn.getD n.a.toNat nilI).xs (kn.getD n.b.toNat nilI).xs) := by
        rw [hpe]; unfold spanAt; rw [hEq]; exact hwn.1
      have hkn2 := known_snocH hkn (x := mkI (numsA n cnt (mkI ((check g).2.getD n.a.toNat [])).xs (kn.getD n.a.toNat nilI).xs (kn.getD n.b.toNat nilI).xs)) (mkI_sane (fun y hy => by have := hwi y hy; unfold bd20; omega) (by rw [hwn.2]; exact hpl.few.2)) hp hs hwi (by show ((numsA _ _ _ _ _).length : Int) = _; rw [hwn.2, hcnt0])
      have := vals_run hsp (by omega) hr2 hkn2 hg
      rw [List.map_append] at this
      exact this
theorem vals_good {g : GraphV} (hsp : (spansH g).1 = 0) {inp : List (List Int)} (hg : goodIn g.l inp) : ∃ vals, valsH g inp = (0, vals) ∧ ∀ i, i < g.l.length → within ((spansH g).2.getD i (0, 0)) (vals.getD i []) := by
  obtain ⟨kn, h1, h2⟩ := vals_run hsp (k := 0) (kn := []) (Nat.zero_le _) rfl ⟨rfl, fun u hu => by simp at hu, fun j u s q hu => by simp at hu⟩ hg
  refine ⟨kn.map IntsV.xs, h1, fun i hi => ?_⟩
  have := (known_argH hsp h2 (Nat.le_refl _) i).1
  rw [getD_xs, List.take_of_length_le (by rw [(spansH_in hsp).2.1]; exact Nat.le_refl _)] at this
  exact this
theorem spansQ_or {sh : List (List Int)} : ∀ {l : List NodeV} {acc : List Sp}, (spansQ sh l acc).1 = 0 ∨ spansQ sh l acc = (5, [])
  | [], acc => .inl rfl
  | n :: r, acc => by
    unfold spansQ
    split
    · exact .inr rfl
    · exact spansQ_or
end Go.Proofs.Ytdmkdogakbipbaa
/- HB -/
namespace Go.Proofs.Ytdmkdogakbipbaa
open Go.SX Go.RowKit Go.ChangeShapes Go.WideShapes Go.ChangeAt
structure BytesV.raw (w : World) (t : BytesV) : Prop where
  rows : RowsI w t.base 1 (bytesR t.bs)
  fits : ∀ x ∈ t.bs, x ≤ 255
theorem addr_plain {w : World} {a : Addr} {v : Value} (h : w.cell? a = some v) : a = ⟨a.block, a.off, none⟩ := by
  obtain ⟨b, o, p⟩ := a
  cases p with
  | none => rfl
  | some x =>
    simp only [World.cell?, Option.isSome_some, if_true] at h
    split at h <;> cases h
theorem bytesD_raw {w : World} {t : BytesV} (h : t.raw w) : (bytesD t).holds (fun b => b < w.heap.size) w := by
  refine ⟨fun r hr => ?_, ?_⟩
  · simp only [bytesR, List.mem_map] at hr
    obtain ⟨x, _, rfl⟩ := hr
    exact ⟨rfl, fun v hv => by simp at hv; subst hv; rfl⟩
  rcases h.rows with h0 | ⟨a, ha, hc⟩
  · exact .inl h0
  · cases hl : t.bs with
    | nil => exact .inl rfl
    | cons x r =>
      have h1 : w.cell? (a.add (0 * 1 + 0)) = some (.int .u8 (x : Int)) := hc 0 [.int .u8 (x : Int)] (by rw [hl]; rfl) 0 _ rfl
      have h2 : a.add (0 * 1 + 0) = a := by simp [Addr.add]
      rw [h2] at h1
      have ea := addr_plain h1
      refine .inr ⟨a.block, a.off, by rw [ha, ← ea], cell_block h1, fun i q hi j v hj => ?_⟩
      have := hc i q (by rw [hl]; exact hi) j v hj
      rw [ea, add_none] at this
      exact this
theorem base_bytes {w w' : World} {R : Nat → Prop} {t : BytesV} (h : t.raw w) (hb : (baseA w).holds R w') : (bytesD t).holds R w' :=
  (bytesD t).stable (fun b hb' => (hb b hb').1) (fun b hb' => (hb b hb').2) (bytesD_raw h)
theorem wf_u8' {x : Int} (h : (Lit.int .u8 x).wf = true) : 0 ≤ x ∧ x ≤ 255 := by
  simp [Lit.wf, IntKind.min, IntKind.max, IntKind.signed, IntKind.bits] at h
  omega
theorem opens_bytes (w : World) : Opens Try.prog w 22 fun cs => ∃ t : BytesV, cs = [t.val] ∧ t.raw w := by
  refine Opens.mono (opens_slice (k := 1) Try.underlying22 (by kernel_rfl) (opens_int Try.underlying5)) ?_
  rintro cs ⟨base, cap, xs, rfl, h1, h2, h3, h4, h5⟩
  obtain ⟨l, rfl, hl⟩ := list_map_of (f := fun (i : Nat) => [Value.int .u8 (i : Int)]) (p := fun i => i ≤ 255) fun r hr => by
    obtain ⟨_, i, hi, rfl⟩ := h2 r hr
    have := wf_u8' hi
    exact ⟨i.toNat, by omega, by rw [show ((i.toNat : Nat) : Int) = i by omega]⟩
  exact ⟨⟨base, cap, l⟩, by simp [BytesV.val], h1, hl⟩

/-- data that stood at the beginning -/
theorem slice_lo {base : Option Addr} {len cap size : Nat} {n : Nat} {z : Int} {K : SV → Prop} (hz : z = n) (hn : n ≤ cap) (h : K (.c (.slice base n cap))) : sliceK base len cap size none (some z) none K := by
  rw [sliceK_def]
  refine ⟨0, n, cap, rfl, hz, rfl, Nat.zero_le _, hn, Nat.le_refl _, fun h => (by cases h), ?_⟩
  have h1 : (if cap = 0 then base else base.map (·.add (0 * size))) = base := by
    split
    · rfl
    · cases base <;> simp [Addr.add]
  have h2 : n - 0 = n := Nat.sub_zero n
  have h3 : cap - 0 = cap := Nat.sub_zero cap
  rw [h1, h2, h3]
  exact h
theorem rows_take {w : World} {base : Option Addr} {k n : Nat} {xs : List (List Value)} (h : RowsI w base k xs) : RowsI w base k (xs.take n) := by
  rcases h with h | ⟨a, ha, h⟩
  · subst h; exact .inl (by simp)
  · refine .inr ⟨a, ha, fun i r hr => ?_⟩
    rw [List.getElem?_take] at hr
    split at hr
    · exact h i r hr
    · cases hr
end Go.Proofs.Ytdmkdogakbipbaa
/- JCa -/
namespace Go.Proofs.Ytdmkdogakbipbaa
open Go.SX Go.RowKit
theorem call_inputs {cx : Cx} {f : FuncId} {H : Heap} {S : Asn} {nx i : Nat} {K : SV → Heap → Asn → Nat → Prop} (t : BytesV) (k : Nat) (gb : Option Addr) (gc : Nat) (l : List NodeV) (out : Int) (hi : (i, Ent.box (cs (tcells t k)) 30) ∈ H) (hf : ∀ ar w, (callFunc f ar).run cx.P w = .ok (.enter f ar) w)
    (hsm : t.bs.length ≤ 1000000) (hby : ∀ x ∈ t.bs, x ≤ 255) (hk : k ≤ t.bs.length) (hS : ∀ R w', S.holds R w' → (bytesD t).holds R w') (hlen : l.length ≤ 24) (hr : ∀ R w', S.holds R w' → (rowsA gb 9 (nodeRows l)).holds R w') (hnd : ∀ R w', S.holds R w' → (nodesD l).holds R w') (hn : ∀ n ∈ l, NodeRd n)
    (hc : ∀ w' b, TapeOk w' b t k → (rowsA gb 9 (nodeRows l)).holds (oth w' b) w' → (nodesD l).holds (oth w' b) w' → Calls cx.P f #[.agg #[.slice gb l.length gc, .int .i64 out], .pointer (some ⟨b, 0, none⟩)] w' (InputsPost w' b t l))
    (h : ∀ x k', InpOut l x → K (.c x.val) (setH i (.box (cs (tcells t k')) 30) H) (S.and ((shapesD x).past cx.B.w0.heap.size)) nx) : callK cx f [.agg [.c (.slice gb l.length gc), .c (.int .i64 out)], .lp i 0 0 0] H S nx K := by
  refine call_box hi hf (fun x : ShapesV × Nat => x.1.val) (fun x => tcells t x.2) (fun x => shapesD x.1) (fun x => InpOut l x.1 ∧ x.2 ≤ t.bs.length) ?_ (fun x hx => h x.1 x.2 hx.1)
  intro R ρ w' b hw hR hRo hρ hb
  rw [rfs_cs] at hb
  have := hc w' b ⟨hsm, hby, (bytesD t).mono (hS R w' hR) hRo, hk, hb⟩ ((rowsA gb 9 (nodeRows l)).mono (hr R w' hR) hRo) ((nodesD l).mono (hnd R w' hR) hRo)
  have e : SV.rfs ρ [.agg [.c (.slice gb l.length gc), .c (.int .i64 out)], .lp i 0 0 0] = [.agg #[.slice gb l.length gc, .int .i64 out], .pointer (some ⟨b, 0, none⟩)] := by
    simp only [SV.rfs, SV.rf, hρ, Option.map_some, add_none]
  rw [e]
  exact this
theorem made_check {l : List NodeV} (hml : MadeL l) (h24 : l.length ≤ 24) : ∃ sh, checkR l [] = (0, sh) ∧ ∀ base cap out, 0 ≤ out → out < (l.length : Int) → check ⟨base, cap, l, out⟩ = (0, sh) := by
  obtain ⟨sh, hsh, _⟩ := hml.shapes
  exact ⟨sh, hsh, fun base cap out h0 h1 => check_made hml.one h24 ⟨h0, h1⟩ hsh⟩
theorem made_spans {l : List NodeV} {sh : List (List Int)} (hck : ∀ base cap out, 0 ≤ out → out < (l.length : Int) → check ⟨base, cap, l, out⟩ = (0, sh)) (base : Option Addr) (cap : Nat) (out : Int) (h0 : 0 ≤ out) (h1 : out < l.length) : spansH ⟨base, cap, l, out⟩ = spansQ sh l [] ∧ ∀ inp, valsH ⟨base, cap, l, out⟩ inp = valsQ sh l [] inp := by
  unfold spansH valsH
  rw [hck base cap out h0 h1]
  exact ⟨rfl, fun _ => rfl⟩
theorem made_read {l : List NodeV} (hml : MadeL l) (h24 : l.length ≤ 24) : ∀ n ∈ l, NodeRd n := by
  obtain ⟨sh, hsh, hck⟩ := made_check hml h24
  have h1 := hml.one
  have hc := hck none 0 0 (Int.le_refl _) (by omega)
  obtain ⟨_, _, _, _, hin⟩ := check_in (g := ⟨none, 0, l, 0⟩) (by rw [hc])
  intro n hn
  obtain ⟨i, hi⟩ := List.mem_iff_getElem?.1 hn
  obtain ⟨s, hs, hni⟩ := hin i n hi
  obtain ⟨nd, nb, nlo, nhi, nle⟩ := near_in hni.near
  exact ⟨hml.each n hn, nlo, nhi, nle⟩
theorem span_le {g : GraphV} (hck : (check g).1 = 0) {i : Nat} {n : NodeV} (hn : g.l[i]? = some n) {acc : List Sp} (ha : acc.length = i) : (spanAt (check g).2 n acc).1 ≤ (spanAt (check g).2 n acc).2 := by
  obtain ⟨_, _, cnt, hcnt, hpl⟩ := place_in hck hn
  unfold spanAt spanE
  refine foldI_le ?_
  unfold endsAt
  rw [ha, hcnt]
  exact endsA_len hpl _ _
end Go.Proofs.Ytdmkdogakbipbaa
/- KA -/
namespace Go.Proofs.Ytdmkdogakbipbaa
open Go.SX Go.RowKit
/-! a graph with a node more: its numbers go on -/
theorem valsQ_more {sh : List (List Int)} {s : List Int} {m : NodeV} (hm : m.kind ≠ 1) : ∀ {l : List NodeV} {known inp vals : List (List Int)}, known.length + l.length = sh.length → (∀ n ∈ l, n.a.toNat < sh.length) → valsQ sh l known inp = (0, vals) → valsQ (sh ++ [s]) (l ++ [m]) known inp = (0, vals ++ [numsAt (sh ++ [s]) m vals])
  | [], known, inp, vals, hl, hn, h => by
    unfold valsQ at h
    split at h
    · simp at h
    · obtain rfl : known = vals := by simpa using h
      rename_i h0
      simp only [List.nil_append]
      unfold valsQ
      rw [if_pos hm]
      unfold valsQ
      rw [if_neg h0]
  | n :: r, known, inp, vals, hl, hn, h => by
    rw [List.length_cons] at hl
    have e1 : (sh ++ [s]).getD known.length [] = sh.getD known.length [] := by
      rw [List.getD_eq_getElem?_getD, List.getD_eq_getElem?_getD, List.getElem?_append_left (by omega)]
    have e2 : (sh ++ [s]).getD n.a.toNat [] = sh.getD n.a.toNat [] := by
      rw [List.getD_eq_getElem?_getD, List.getD_eq_getElem?_getD, List.getElem?_append_left (hn n List.mem_cons_self)]
    have e3 : numsAt (sh ++ [s]) n known = numsAt sh n known := by unfold numsAt; rw [e1, e2]
    have ih := fun kn inp' v => valsQ_more (sh := sh) (s := s) hm (l := r) (known := known ++ [kn]) (inp := inp') (vals := v) (by rw [List.length_append, List.length_singleton]; omega) (fun x hx => hn x (List.mem_cons_of_mem _ hx))
    unfold valsQ at h
    rw [List.cons_append]
    unfold valsQ
    by_cases hk : n.kind ≠ 1
    · rw [if_pos hk] at h ⊢
      rw [e3]
      exact ih _ _ _ h
    · rw [if_neg hk] at h ⊢
      cases inp with
      | nil => simp at h
      | cons x xs =>
        simp only at h ⊢
        rw [e1]
        split at h
        · simp at h
        · rename_i hb
          rw [if_neg hb]
          exact ih _ _ _ h
/-- a made graph, whose shapes are known -/
structure MadeS (l : List NodeV) (sh : List (List Int)) : Prop where
  made : MadeL l
  shapes : checkR l [] = (0, sh)
  ok : ∀ s ∈ sh, ShOk s
theorem MadeL.s {l : List NodeV} (h : MadeL l) : ∃ sh, MadeS l sh := by
  obtain ⟨sh, h1, h2⟩ := h.shapes
  exact ⟨sh, h, h1, h2⟩
theorem MadeS.len {l : List NodeV} {sh : List (List Int)} (h : MadeS l sh) : sh.length = l.length := by
  have := checkR_length l [] (by rw [h.shapes])
  rw [h.shapes] at this
  simpa using this
theorem MadeS.snoc {l : List NodeV} {sh : List (List Int)} {n : NodeV} (h : MadeS l sh) (hn : GoodNode n sh) {s : List Int} (hs : shapeO n sh = some s) : MadeS (l ++ [n]) (sh ++ [s]) := by
  obtain ⟨s', h1, h2⟩ := hn.shape
  obtain rfl : s' = s := by rw [hs] at h1; simpa using h1.symm
  exact ⟨madeL_snoc h.made h.shapes hn h.ok, checkR_snoc h.shapes hn.form hs hn.near, fun x hx => by
    rcases List.mem_append.1 hx with hx | hx
    · exact h.ok x hx
    · simp at hx; subst hx; exact h2⟩
theorem MadeS.check {l : List NodeV} {sh : List (List Int)} (h : MadeS l sh) (h24 : l.length ≤ 24) (base : Option Addr) (cap : Nat) {out : Int} (h0 : 0 ≤ out) (h1 : out < l.length) : check ⟨base, cap, l, out⟩ = (0, sh) := check_made h.made.one h24 ⟨h0, h1⟩ h.shapes
theorem MadeS.a {l : List NodeV} {sh : List (List Int)} (h : MadeS l sh) (h24 : l.length ≤ 24) : ∀ n ∈ l, n.a.toNat < sh.length := by
  have h1 := h.made.one
  have hc := h.check h24 none 0 (out := 0) (Int.le_refl _) (by omega)
  intro n hn
  obtain ⟨i, hi⟩ := List.mem_iff_getElem?.1 hn
  have := (place_in (g := ⟨none, 0, l, 0⟩) (by rw [hc]) hi).1.2.1
  rw [hc] at this
  exact this
/-- of inputs that go with the nodes: the spans are beyond the bound, or each node's numbers are told -/
theorem MadeS.run {l : List NodeV} {sh inp : List (List Int)} (h : MadeS l sh) (h24 : l.length ≤ 24) (hg : goodIn l inp) (hsp : (spansQ sh l []).1 = 0) : ∃ vals, valsQ sh l [] inp = (0, vals) ∧ vals.length = l.length ∧ (∀ i, i < l.length → (∀ x ∈ vals.getD i [], bd20 x) ∧ ((vals.getD i []).length : Int) = entries (sh.getD i [])) ∧ ∀ base cap (out : Int), 0 ≤ out → out < l.length → runH ⟨base, cap, l, out⟩ inp = (0, vals.getD out.toNat []) := by
  have h1 := h.made.one
  have hc := fun base cap (out : Int) (h0 : 0 ≤ out) (h1 : out < l.length) => h.check h24 base cap h0 h1
  have hS := made_spans hc
  obtain ⟨q1, q2⟩ := hS none 0 0 (Int.le_refl _) (by omega)
  obtain ⟨kn, v1, v2⟩ := vals_run (g := ⟨none, 0, l, 0⟩) (by rw [q1]; exact hsp) (k := 0) (kn := []) (Nat.zero_le _) rfl ⟨rfl, fun u hu => by simp at hu, fun j u s q hu => by simp at hu⟩ hg
  rw [hc none 0 0 (Int.le_refl _) (by omega)] at v1
  have hkl : kn.length = l.length := v2.len
  have v1 : valsQ sh l [] inp = (0, kn.map IntsV.xs) := v1
  refine ⟨kn.map IntsV.xs, v1, by rw [List.length_map, hkl], fun i hi => ?_, fun base cap out h0 h1 => ?_⟩
  · have := known_argH (g := ⟨none, 0, l, 0⟩) (by rw [q1]; exact hsp) v2 (Nat.le_refl _) i
    rw [← getD_xs]
    refine ⟨this.2.1, ?_⟩
    have e := this.2.2 hi
    rw [hc none 0 0 (Int.le_refl _) (by omega)] at e
    rw [e, List.take_of_length_le (by rw [h.len]; exact Nat.le_refl _)]
  · obtain ⟨r1, r2⟩ := hS base cap out h0 h1
    unfold runH
    rw [r1, r2, if_neg (by omega), v1, if_neg (by simp)]
theorem numsA_plain {n : NodeV} {cnt : Nat} {t a b : List Int} (h : ¬ isLin n) : numsA n cnt t a b = (List.range cnt).map (numAt n a b) := if_neg h
theorem getD_snoc {α : Type} {l : List α} {x d : α} {k : Nat} (h : k = l.length) : (l ++ [x]).getD k d = x := by
  subst h; rw [List.getD_eq_getElem?_getD, List.getElem?_append_right (Nat.le_refl _), Nat.sub_self]; rfl
theorem getD_left {α : Type} {l r : List α} {d : α} {k : Nat} (h : k < l.length) : (l ++ r).getD k d = l.getD k d := by
  rw [List.getD_eq_getElem?_getD, List.getD_eq_getElem?_getD, List.getElem?_append_left h]
def addN (i j : Nat) : NodeV := ⟨6, i, j, nilI, 0, 0, 0, nilI, nilI⟩
def negN (i : Nat) (d : IntsV) : NodeV := ⟨7, i, 0, nilI, 0, 0, 0, d, nilI⟩
theorem made_add {l : List NodeV} {sh : List (List Int)} (h : MadeS l sh) (h24 : l.length ≤ 23) {i j : Nat} (hi : i < l.length) (hj : j < l.length) (he : sh.getD j [] = sh.getD i []) : MadeS (l ++ [addN i j]) (sh ++ [sh.getD i []]) := by
  have hl := h.len
  have hs := h.ok _ (getD_memL (l := sh) (k := i) (by omega))
  refine h.snoc (good_add (by omega) (by omega) rfl he hs (by omega)) ?_
  have hg' : sh.getD ((i : Int)).toNat [] = sh.getD i [] := rfl
  have hg2' : sh.getD ((j : Int)).toNat [] = sh.getD i [] := he
  unfold shapeO
  simp only [hg', hg2']
  simp
theorem made_neg {l : List NodeV} {sh : List (List Int)} (h : MadeS l sh) (h24 : l.length ≤ 23) {i : Nat} {d : IntsV} (hd : d.sane) (hx : d.xs = [-1]) (hi : i < l.length) : MadeS (l ++ [negN i d]) (sh ++ [sh.getD i []]) := by
  have hl := h.len
  have hs := h.ok _ (getD_memL (l := sh) (k := i) (by omega))
  refine h.snoc (good_scale (by omega) rfl hs hd (by rw [hx]; rfl) (by rw [hx]; intro x hx; simp at hx; omega) (by omega)) ?_
  have hg' : sh.getD ((i : Int)).toNat [] = sh.getD i [] := rfl
  unfold shapeO
  simp only [hg']
  simp
theorem nums_add {sh vals : List (List Int)} {i j : Nat} {c : Nat} (hc : ((sh.getD vals.length []) |> entries) = c) : numsAt sh (addN i j) vals = (List.range c).map fun o => (vals.getD i []).getD o 0 + (vals.getD j []).getD o 0 := by
  unfold numsAt
  rw [numsA_plain (by unfold isLin addN; simp), hc, Int.toNat_natCast]
  rfl
theorem nums_neg {sh vals : List (List Int)} {i : Nat} {d : IntsV} (hx : d.xs = [-1]) {c : Nat} (hc : ((sh.getD vals.length []) |> entries) = c) : numsAt sh (negN i d) vals = (List.range c).map fun o => (vals.getD i []).getD o 0 * -1 := by
  unfold numsAt
  rw [numsA_plain (by unfold isLin negN; simp), hc, Int.toNat_natCast]
  refine List.map_congr_left fun o _ => ?_
  unfold numAt negN
  simp only
  rw [if_neg (by decide), if_neg (by decide), if_pos trivial, hx]
  rfl
/-- the sum of a graph's numbers with themselves, and their difference -/
structure Sums (l : List NodeV) (inp : List (List Int)) (out : Nat) (v : List Int) (d : IntsV) : Prop where
  val : ∀ base cap, runH ⟨base, cap, l, out⟩ inp = (0, v)
  vb : ∀ x ∈ v, bd20 x
  vl : v.length ≤ 64
  w : ∀ base cap, runH ⟨base, cap, l ++ [addN out out], l.length⟩ inp = (5, []) ∨ runH ⟨base, cap, l ++ [addN out out], l.length⟩ inp = (0, v.map fun x => 2 * x)
  u : ∀ base cap, runH ⟨base, cap, (l ++ [negN out d]) ++ [addN out l.length], l.length + 1⟩ inp = (5, []) ∨ runH ⟨base, cap, (l ++ [negN out d]) ++ [addN out l.length], l.length + 1⟩ inp = (0, v.map fun _ => 0)
theorem map_range_getD {l : List Int} {c : Nat} (hc : l.length = c) (f : Int → Int) : ((List.range c).map fun o => f (l.getD o 0)) = l.map f := by
  subst hc
  apply List.ext_getElem
  · simp
  · intro i h1 h2
    simp only [List.getElem_map, List.getElem_range]
    have : i < l.length := by simpa using h2
    rw [List.getD_eq_getElem?_getD, List.getElem?_eq_getElem this]; rfl
theorem sums_of {l : List NodeV} {sh inp : List (List Int)} (h : MadeS l sh) (h8 : l.length ≤ 8) (hg : goodIn l inp) (hsp : (spansQ sh l []).1 = 0) {out : Nat} (ho : out < l.length) {d : IntsV} (hd : d.sane) (hx : d.xs = [-1]) : ∃ v, Sums l inp out v d := by
  obtain ⟨vals, v1, v2, v3, v4⟩ := h.run (by omega) hg hsp
  have hl := h.len
  obtain ⟨c, hc⟩ : ∃ c : Nat, entries (sh.getD out []) = c := ⟨(entries (sh.getD out [])).toNat, by have := (entries_bd (sh.getD out [])).1; omega⟩
  have hc64 := (entries_bd (sh.getD out [])).2
  obtain ⟨hb, hvl⟩ := v3 out ho
  have hvc : (vals.getD out []).length = c := by omega
  have hrun5 : ∀ (L : List NodeV) (S : List (List Int)), MadeS L S → L.length ≤ 24 → (spansQ S L []).1 ≠ 0 → ∀ base cap (o : Int), 0 ≤ o → o < L.length → runH ⟨base, cap, L, o⟩ inp = (5, []) := fun L S hL h24 hne base cap o h0 h1 => by
    have hc := fun base cap (out : Int) (h0 : 0 ≤ out) (h1 : out < L.length) => hL.check h24 base cap h0 h1
    obtain ⟨r1, _⟩ := made_spans hc base cap o h0 h1
    have h5 : spansQ S L [] = (5, []) := spansQ_or.resolve_left hne
    unfold runH
    rw [r1, h5, if_pos (by simp)]
  refine ⟨vals.getD out [], fun base cap => v4 base cap out (by omega) (by omega), hb, by omega, fun base cap => ?_, fun base cap => ?_⟩
  · have h2 := made_add h (by omega) ho ho rfl
    have hL2 : (l ++ [addN out out]).length = l.length + 1 := by simp
    by_cases hs2 : (spansQ (sh ++ [sh.getD out []]) (l ++ [addN out out]) []).1 = 0
    · obtain ⟨vals2, w1, _, _, w4⟩ := h2.run (by omega) (goodIn_skip (by unfold addN; simp) hg) hs2
      rw [valsQ_more (by unfold addN; simp) (by rw [hl]; simp) (h.a (by omega)) v1] at w1
      obtain rfl := (Prod.mk.inj w1).2
      right
      have hw := w4 base cap l.length (by omega) (by rw [hL2]; omega)
      rw [hw, Int.toNat_natCast, getD_snoc (by rw [v2]), nums_add (c := c) (by show entries _ = _; rw [getD_snoc (by rw [v2, hl])]; exact hc)]
      rw [map_range_getD hvc (fun x => x + x)]
      congr 1
      refine List.map_congr_left fun x _ => by omega
    · left
      exact hrun5 _ _ h2 (by omega) hs2 base cap _ (by omega) (by rw [hL2]; omega)
  · have h2 := made_neg h (by omega) hd hx ho
    have hL2 : (l ++ [negN out d]).length = l.length + 1 := by simp
    have e0 : (sh ++ [sh.getD out []]).getD out [] = sh.getD out [] := getD_left (by omega)
    have e1 : (sh ++ [sh.getD out []]).getD l.length [] = (sh ++ [sh.getD out []]).getD out [] := by rw [getD_snoc hl.symm, e0]
    have h3 := made_add h2 (by omega) (i := out) (j := l.length) (by omega) (by omega) e1
    have hL3 : ((l ++ [negN out d]) ++ [addN out l.length]).length = l.length + 2 := by simp
    by_cases hs2 : (spansQ ((sh ++ [sh.getD out []]) ++ [(sh ++ [sh.getD out []]).getD out []]) ((l ++ [negN out d]) ++ [addN out l.length]) []).1 = 0
    · obtain ⟨vals2, w1, _, _, w4⟩ := h3.run (by omega) (goodIn_skip (by unfold addN; simp) (goodIn_skip (by unfold negN; simp) hg)) hs2
      rw [valsQ_more (by unfold addN; simp) (by simp; omega) (h2.a (by omega)) (valsQ_more (by unfold negN; simp) (by rw [hl]; simp) (h.a (by omega)) v1)] at w1
      obtain rfl := (Prod.mk.inj w1).2
      right
      have hw := w4 base cap (l.length + 1) (by omega) (by rw [hL3]; omega)
      have et : ((l.length : Int) + 1).toNat = l.length + 1 := by omega
      rw [hw, et, getD_snoc (by simp [v2]), nums_add (c := c) (by show entries _ = _; rw [getD_snoc (by simp [v2, hl]), e0]; exact hc)]
      rw [getD_left (by omega), getD_snoc v2.symm, nums_neg hx (c := c) (by show entries _ = _; rw [getD_snoc (by rw [v2, hl])]; exact hc)]
      congr 1
      rw [← map_range_getD hvc (fun _ => 0)]
      refine List.map_congr_left fun o ho => ?_
      have : ((List.range c).map fun o => (vals.getD out []).getD o 0 * -1).getD o 0 = (vals.getD out []).getD o 0 * -1 := by
        rw [List.getD_eq_getElem?_getD, List.getElem?_map, List.getElem?_range (List.mem_range.1 ho)]; rfl
      rw [this]
      omega
    · left
      exact hrun5 _ _ h3 (by omega) hs2 base cap _ (by omega) (by rw [hL3]; omega)
end Go.Proofs.Ytdmkdogakbipbaa
/- KB -/
namespace Go.Proofs.Ytdmkdogakbipbaa
open Go.SX Go.RowKit
theorem call_runA {cx : Cx} {f : FuncId} {args : List SV} {H : Heap} {S : Asn} {nx : Nat} {K : SV → Heap → Asn → Nat → Prop} (r : Int × List Int) (hf : ∀ ar w, (callFunc f ar).run cx.P w = .ok (.enter f ar) w)
    (hc : ∀ ρ w', Abs cx.B ρ nx H S w' → Calls cx.P f (SV.rfs ρ args).toArray w' (RunPost w' r))
    (h : ∀ x : IntsV, (r.1 = 0 → x.xs = r.2) → x.sane → K (.c (.tuple #[x.val, .int .i64 r.1])) H (S.and ((intsA x).past cx.B.w0.heap.size)) nx) : callK cx f args H S nx K := by
  rw [callK_def]
  refine ⟨hf, fun ρ w hw => (hc ρ w hw).mono ?_⟩
  rintro e w' (⟨hr, rfl, he⟩ | ⟨hr, x, ⟨hx1, hx2⟩, rfl, he, hD⟩)
  · exact ⟨.c (.tuple #[.slice none 0 0, .int .i64 r.1]), ρ, H, _, nx, rfl, fun _ _ => rfl, Nat.le_refl _, SV.lt_c _, hw.grow he (nilI_holds _ w'), h nilI (fun h0 => absurd h0 hr) nilI_sane⟩
  · have := h x (fun _ => hx1) hx2
    rw [hr] at this
    exact ⟨.c (.tuple #[x.val, .int .i64 0]), ρ, H, _, nx, rfl, fun _ _ => rfl, Nat.le_refl _, SV.lt_c _, hw.grow he hD, this⟩
theorem node_rows (l : List NodeV) : ∀ r ∈ nodeRows l, r.length = 9 ∧ ∀ v ∈ r, v.oneCell' = true := fun r hr => by
  obtain ⟨n, _, rfl⟩ := List.mem_map.1 hr
  refine ⟨rfl, fun v hv => ?_⟩
  simp only [NodeV.cells, List.mem_cons, List.not_mem_nil, or_false] at hv
  rcases hv with rfl | rfl | rfl | rfl | rfl | rfl | rfl | rfl | rfl <;> rfl
theorem nodeD_plain (k a b lo hi z : Int) {N : Nat} (R : Nat → Prop) (w : World) : ((nodeD ⟨k, a, b, nilI, lo, hi, z, nilI, nilI⟩ false).past N).holds R w := ⟨fun _ => nilI_holds _ _, nilI_holds _ _, nilI_holds _ _⟩
theorem nodeD_data (k a b lo hi z : Int) {d : IntsV} {N : Nat} {R : Nat → Prop} {w : World} (h : ((intsA d).past N).holds R w) : ((nodeD ⟨k, a, b, nilI, lo, hi, z, d, nilI⟩ false).past N).holds R w := ⟨fun _ => nilI_holds _ _, h, nilI_holds _ _⟩
theorem ro_intv {a : Addr} {j : Nat} {S : Asn} {xs : List Int} {v : Int} {K : SV → Prop} (hx : ∀ R w, S.holds R w → RowsI w (some a) 1 (ints xs)) (hj : j < xs.length) (e : xs.getD j 0 = v) (h : K (.c (.int .i64 v))) : roK (a.add (j * 1)) S K := by
  subst e; exact ro_int hx hj h
theorem less_eq (l : List NodeV) (on k : Nat) (q : IntsV) : l ++ [negN on q, addN on k] = (l ++ [negN on q]) ++ [addN on k] := by simp
theorem made_less {l : List NodeV} {sh : List (List Int)} (h : MadeS l sh) (h8 : l.length ≤ 8) {on : Nat} (ho : on < l.length) {d : IntsV} (hd : d.sane) (hx : d.xs = [-1]) : ∃ sh', MadeS ((l ++ [negN on d]) ++ [addN on l.length]) sh' := by
  have hl := h.len
  have h2 := made_neg h (by omega) hd hx ho
  have hL2 : (l ++ [negN on d]).length = l.length + 1 := by simp
  have e0 : (sh ++ [sh.getD on []]).getD on [] = sh.getD on [] := getD_left (by omega)
  have e1 : (sh ++ [sh.getD on []]).getD l.length [] = (sh ++ [sh.getD on []]).getD on [] := by rw [getD_snoc hl.symm, e0]
  exact ⟨_, made_add h2 (by omega) (i := on) (j := l.length) (by omega) (by omega) e1⟩
theorem sums_case {l : List NodeV} {sh inp : List (List Int)} (h : MadeS l sh) (h8 : l.length ≤ 8) (hg : goodIn l inp) {on : Nat} (ho : on < l.length) {d : IntsV} (hd : d.sane) (hx : d.xs = [-1]) (b1 b2 b3 : Option Addr) (c1 c2 c3 : Nat) :
    (runH ⟨b1, c1, l, on⟩ inp).1 = 5 ∨ ∃ v, (runH ⟨b1, c1, l, on⟩ inp).1 = 0 ∧ (runH ⟨b1, c1, l, on⟩ inp).2 = v ∧ (∀ x ∈ v, bd20 x) ∧ v.length ≤ 64 ∧ ((runH ⟨b2, c2, l ++ [addN on on], l.length⟩ inp).1 = 5 ∨ (runH ⟨b2, c2, l ++ [addN on on], l.length⟩ inp).1 = 0 ∧ (runH ⟨b2, c2, l ++ [addN on on], l.length⟩ inp).2 = v.map fun x => 2 * x) ∧ ((runH ⟨b3, c3, l ++ [negN on d, addN on l.length], l.length + 1⟩ inp).1 = 5 ∨ (runH ⟨b3, c3, l ++ [negN on d, addN on l.length], l.length + 1⟩ inp).1 = 0 ∧ (runH ⟨b3, c3, l ++ [negN on d, addN on l.length], l.length + 1⟩ inp).2 = v.map fun _ => 0) := by
  by_cases hs : (spansQ sh l []).1 = 0
  · obtain ⟨v, hv⟩ := sums_of h h8 hg hs ho hd hx
    right
    rw [less_eq]
    refine ⟨v, by rw [hv.val], by rw [hv.val], hv.vb, hv.vl, ?_, ?_⟩
    · rcases hv.w b2 c2 with h | h <;> rw [h]
      · exact .inl rfl
      · exact .inr ⟨rfl, rfl⟩
    · rcases hv.u b3 c3 with h | h <;> rw [h]
      · exact .inl rfl
      · exact .inr ⟨rfl, rfl⟩
  · left
    have h1 := h.made.one
    have hc := fun base cap (out : Int) (h0 : 0 ≤ out) (h1 : out < l.length) => h.check (by omega) base cap h0 h1
    obtain ⟨r1, _⟩ := made_spans hc b1 c1 on (by omega) (by omega)
    have h5 : spansQ sh l [] = (5, []) := spansQ_or.resolve_left hs
    unfold runH
    rw [r1, h5, if_pos (by simp)]
theorem less_ok {l : List NodeV} {sh : List (List Int)} (h : MadeS l sh) (h8 : l.length ≤ 8) {on : Nat} (ho : on < l.length) {q : IntsV} (hqs : q.sane) (hq : q.xs = [-1]) {base : Option Addr} {cap N : Nat} {R : Nat → Prop} {w' : World} (hn : ((nodesD l).past N).holds R w') (hqd : ((intsA q).past N).holds R w') (hr : ((rowsA base 9 (nodeRows (l ++ [negN on q, addN on l.length]))).past N).holds R w') : (⟨base, cap, l ++ [negN on q, addN on l.length], l.length + 1⟩ : GraphV).ok w' := by
  obtain ⟨sh3, hm3⟩ := made_less h h8 ho hqs hq
  rw [less_eq] at *
  exact graph_ok hm3.made.each (by simp; omega) (rowsA_in hr) ((nodesD _).mono (nodesD_snoc (nodesD_snoc hn (nodeD_data _ _ _ _ _ _ hqd)) (nodeD_plain _ _ _ _ _ _ _ _)) (fun b hb => hb.1)) ⟨by omega, by omega⟩
theorem rows_cat {A B : List (List Value)} {l m : List NodeV} (hA : A = nodeRows l) (hB : B = nodeRows m) : A ++ B = nodeRows (l ++ m) := by subst hA hB; simp [nodeRows]
theorem freezeE {cx : Cx} {c : Code} {env : Env} {H : Heap} {S : Asn} {nx : Nat} {K : Exit → Env → Heap → Asn → Nat → Prop} (i N : Nat) {xs ys : List (List Value)} {k : Nat} {T : TypeId} (he : (i, Ent.rows xs k T) ∈ H) (hxy : xs = ys) (hN : ∀ R w, S.holds R w → ∀ b, b < N → R b)
    (h : ∀ l : SX.Loc, ys.length ≤ l.cap → Wp cx c (env.fz i l) (Heap.fz i l (delH i H)) (S.and ((rowsA l.base k ys).past N)) nx K) : Wp cx c env H S nx K := by
  subst hxy
  exact Wp.freezeN i N he hN h
set_option maxRecDepth 20000 in
set_option maxHeartbeats 4000000 in
theorem lawSums_any (w : World) (t d : BytesV) (ht : t.raw w) (hd : d.raw w) : Calls Try.prog 3 #[t.val, d.val] w fun e w' => e = .returned (.bool true) ∧ Ext w w' := by
  by_cases h300 : t.bs.length ≤ 300 ∧ d.bs.length ≤ 300
  · obtain ⟨ht3, hd3⟩ := h300
    refine calls_of tab tabOk Try.func3 rfl rfl rfl [] (fun _ => ⟨none, 0⟩) [.c t.val, .c d.val] [] (baseA w) 0 rfl rfl (by show 2 ≤ _; decide) (abs_base w) ?_
    (repeat' ((conv => whnf) <;> first | (show callK _ 15 _ _ _ _ _; (refine call_pure (f := 15) Try.call15 (.bool true) (fun ρ w' hw => fixed17_any w') ?_)) | (show drawK _ 9 _ _ _ _ _ _; (refine draw_tree tabOk mixed [] _ (.take 1 (.take 2 (.take 4 (.take 5 (.take 6 (.take 7 (.take 8 (.alt 0 (.alt 3 (.one 9 (.one 10 (.take 11 (.done)))) (.one 9 (.one 3 (.one 10 (.take 11 (.done)))))) (.one 9 (.one 0 (.one 3 (.one 10 (.take 11 (.done)))))))))))))) (by kernel_rfl) (by kernel_rfl) (by kernel_rfl) (List.Sublist.refl _) ?_)) | (show drawK _ 10 _ _ _ _ _ _; (refine draw_tree tabOk mixed [] _ (.take 1 (.take 2 (.take 4 (.take 5 (.take 8 (.take 9 (.take 10 (.take 11 (.alt 0 (.alt 3 (.one 6 (.take 7 (.one 12 (.one 13 (.take 14 (.done)))))) (.one 6 (.take 7 (.alt 3 (.one 12 (.one 13 (.take 14 (.done)))) (.one 12 (.one 3 (.one 13 (.take 14 (.done))))))))) (.one 6 (.take 7 (.alt 0 (.alt 3 (.one 12 (.one 13 (.take 14 (.done)))) (.one 12 (.one 3 (.one 13 (.take 14 (.done)))))) (.one 12 (.one 0 (.one 3 (.one 13 (.take 14 (.done)))))))))))))))))) (by kernel_rfl) (by kernel_rfl) (by kernel_rfl) (List.Sublist.refl _) ?_)) | (show drawK _ 20 _ _ _ _ _ _; (refine draw_quiet tabOk mixed (by kernel_rfl) ?_)) | (show Wp _ _ _ _ _ _ _; (refine Wp.go tabOk rfl ?_)) | (show @cmpK _ _ _; (first | refine cmp_yes (by omega) ?_ | refine cmp_no (by omega) ?_ | (refine cmp_both ?_ ?_ <;> intro _))) | (show wrapK _ _ _; (refine wrap_i64 (by omega) (by omega) ?_)) | (show leK _ _ _; (refine le_of (by first | exact Nat.le_refl _ | omega) ?_)) | (show roomK _ _ _; (refine room_of (by first | omega | (dsimp only; omega)) ?_)) | (show ltK _ _ _; (refine lt_of (by omega) ?_)) | (show _ ∧ _; (refine ⟨?_, ?_⟩)) | (show keepK _ _ _ _ _; (refine keep_of (by first | exact List.Sublist.refl _ | exact List.Sublist.cons _ (List.Sublist.refl _) | exact List.Sublist.cons _ (List.Sublist.cons _ (List.Sublist.refl _)) | exact List.Sublist.cons _ (List.Sublist.cons _ (List.Sublist.cons _ (List.Sublist.refl _)))) (by first | exact (fun _ _ h => h) | exact (fun _ _ h => h.1) | exact (fun _ _ h => h.1.1)) ?_)) | (show ownK _ _ _ _ _; (refine own_keep ?_))))
    refine call_graph (f := 16) t 0 (by repeat (first | exact List.mem_cons_self | apply List.mem_cons_of_mem)) Try.call16 (by omega) ht.fits (Nat.zero_le _) (fun R w' h => base_bytes ht h) (fun w' b htk => make_any w' b t 0 htk) (fun l out k' hml h8 ho0 ho1 => ?_)
    obtain ⟨sh, hms⟩ := hml.s
    obtain ⟨on, rfl⟩ : ∃ k : Nat, out = k := ⟨out.toNat, by omega⟩
    have hl1 := hml.one
    (repeat' ((conv => whnf) <;> first | (show drawK _ 9 _ _ _ _ _ _; (refine draw_tree tabOk mixed [] _ (.take 1 (.take 2 (.take 4 (.take 5 (.take 6 (.take 7 (.take 8 (.alt 0 (.alt 3 (.one 9 (.one 10 (.take 11 (.done)))) (.one 9 (.one 3 (.one 10 (.take 11 (.done)))))) (.one 9 (.one 0 (.one 3 (.one 10 (.take 11 (.done)))))))))))))) (by kernel_rfl) (by kernel_rfl) (by kernel_rfl) (List.Sublist.refl _) ?_)) | (show drawK _ 10 _ _ _ _ _ _; (refine draw_tree tabOk mixed [] _ (.take 1 (.take 2 (.take 4 (.take 5 (.take 8 (.take 9 (.take 10 (.take 11 (.alt 0 (.alt 3 (.one 6 (.take 7 (.one 12 (.one 13 (.take 14 (.done)))))) (.one 6 (.take 7 (.alt 3 (.one 12 (.one 13 (.take 14 (.done)))) (.one 12 (.one 3 (.one 13 (.take 14 (.done))))))))) (.one 6 (.take 7 (.alt 0 (.alt 3 (.one 12 (.one 13 (.take 14 (.done)))) (.one 12 (.one 3 (.one 13 (.take 14 (.done)))))) (.one 12 (.one 0 (.one 3 (.one 13 (.take 14 (.done)))))))))))))))))) (by kernel_rfl) (by kernel_rfl) (by kernel_rfl) (List.Sublist.refl _) ?_)) | (show drawK _ 20 _ _ _ _ _ _; (refine draw_quiet tabOk mixed (by kernel_rfl) ?_)) | (show @cmpK _ _ _; (first | refine cmp_yes (by omega) ?_ | refine cmp_no (by omega) ?_ | (refine cmp_both ?_ ?_ <;> intro _))) | (show wrapK _ _ _; (refine wrap_i64 (by omega) (by omega) ?_)) | (show leK _ _ _; (refine le_of (by first | exact Nat.le_refl _ | omega) ?_)) | (show roomK _ _ _; (refine room_of (by first | omega | (dsimp only; omega)) ?_)) | (show ltK _ _ _; (refine lt_of (by omega) ?_)) | (show _ ∧ _; (refine ⟨?_, ?_⟩)) | (show keepK _ _ _ _ _; (refine keep_of (by first | exact List.Sublist.refl _ | exact List.Sublist.cons _ (List.Sublist.refl _) | exact List.Sublist.cons _ (List.Sublist.cons _ (List.Sublist.refl _)) | exact List.Sublist.cons _ (List.Sublist.cons _ (List.Sublist.cons _ (List.Sublist.refl _)))) (by first | exact (fun _ _ h => h) | exact (fun _ _ h => h.1) | exact (fun _ _ h => h.1.1)) ?_)) | (show ownK _ _ _ _ _; (refine own_keep ?_))))
    all_goals (conv => whnf)
    refine Wp.freezeN 1 w.heap.size (k := 9) (xs := nodeRows l) (T := 38) (by repeat (first | exact List.mem_cons_self | apply List.mem_cons_of_mem)) (fun R w' h b hb => (h.1 b hb).1) (fun l1 hl1 => ?_)
    refine Wp.know (p := ∃ a, l1.base = some a) (fun ρ w' hw => holds_of_abs hw fun R h => base_some (j := 0) (rowsA_in h.2) (by rw [nodeRows_length]; omega)) ?_
    rintro ⟨la, hla⟩
    obtain ⟨lb, lc⟩ := l1
    simp only at hla
    subst hla
    have hgok : ∀ {R : Nat → Prop} {w' : World}, (((baseA w).and ((nodesD l).past w.heap.size)).and ((rowsA (some la) 9 (nodeRows l)).past w.heap.size)).holds R w' → (⟨(some la), lc, l, on⟩ : GraphV).ok w' := fun h => graph_ok hml.each (by omega) (rowsA_in h.2) ((nodesD l).mono h.1.2 (fun b hb => hb.1)) ⟨by omega, by omega⟩
    (repeat' ((conv => whnf) <;> first | (show drawK _ 9 _ _ _ _ _ _; (refine draw_tree tabOk mixed [] _ (.take 1 (.take 2 (.take 4 (.take 5 (.take 6 (.take 7 (.take 8 (.alt 0 (.alt 3 (.one 9 (.one 10 (.take 11 (.done)))) (.one 9 (.one 3 (.one 10 (.take 11 (.done)))))) (.one 9 (.one 0 (.one 3 (.one 10 (.take 11 (.done)))))))))))))) (by kernel_rfl) (by kernel_rfl) (by kernel_rfl) (List.Sublist.refl _) ?_)) | (show drawK _ 10 _ _ _ _ _ _; (refine draw_tree tabOk mixed [] _ (.take 1 (.take 2 (.take 4 (.take 5 (.take 8 (.take 9 (.take 10 (.take 11 (.alt 0 (.alt 3 (.one 6 (.take 7 (.one 12 (.one 13 (.take 14 (.done)))))) (.one 6 (.take 7 (.alt 3 (.one 12 (.one 13 (.take 14 (.done)))) (.one 12 (.one 3 (.one 13 (.take 14 (.done))))))))) (.one 6 (.take 7 (.alt 0 (.alt 3 (.one 12 (.one 13 (.take 14 (.done)))) (.one 12 (.one 3 (.one 13 (.take 14 (.done)))))) (.one 12 (.one 0 (.one 3 (.one 13 (.take 14 (.done)))))))))))))))))) (by kernel_rfl) (by kernel_rfl) (by kernel_rfl) (List.Sublist.refl _) ?_)) | (show drawK _ 20 _ _ _ _ _ _; (refine draw_quiet tabOk mixed (by kernel_rfl) ?_)) | (show Wp _ _ _ _ _ _ _; (refine Wp.go tabOk rfl ?_)) | (show @cmpK _ _ _; (first | refine cmp_yes (by omega) ?_ | refine cmp_no (by omega) ?_ | (refine cmp_both ?_ ?_ <;> intro _))) | (show wrapK _ _ _; (refine wrap_i64 (by omega) (by omega) ?_)) | (show leK _ _ _; (refine le_of (by first | exact Nat.le_refl _ | omega) ?_)) | (show roomK _ _ _; (refine room_of (by first | omega | (dsimp only; omega)) ?_)) | (show ltK _ _ _; (refine lt_of (by omega) ?_)) | (show _ ∧ _; (refine ⟨?_, ?_⟩)) | (show keepK _ _ _ _ _; (refine keep_of (by first | exact List.Sublist.refl _ | exact List.Sublist.cons _ (List.Sublist.refl _) | exact List.Sublist.cons _ (List.Sublist.cons _ (List.Sublist.refl _)) | exact List.Sublist.cons _ (List.Sublist.cons _ (List.Sublist.cons _ (List.Sublist.refl _)))) (by first | exact (fun _ _ h => h) | exact (fun _ _ h => h.1) | exact (fun _ _ h => h.1.1)) ?_)) | (show ownK _ _ _ _ _; (refine own_keep ?_))))
    refine call_inputs (f := 17) d 0 (some la) lc l on (by repeat (first | exact List.mem_cons_self | apply List.mem_cons_of_mem)) Try.call17 (by omega) hd.fits (Nat.zero_le _) (fun R w' h => base_bytes hd h.1.1) (by omega) (fun R w' h => (rowsA _ _ _).mono h.2 (fun b hb => hb.1)) (fun R w' h => (nodesD l).mono h.1.2 (fun b hb => hb.1)) (made_read hml (by omega)) (fun w' b htk hr hnd => inputs_any w' b d 0 htk (some la) lc l on (by omega) hr hnd (made_read hml (by omega))) (fun x k2 hx => ?_)
    (repeat' ((conv => whnf) <;> first | (show drawK _ 9 _ _ _ _ _ _; (refine draw_tree tabOk mixed [] _ (.take 1 (.take 2 (.take 4 (.take 5 (.take 6 (.take 7 (.take 8 (.alt 0 (.alt 3 (.one 9 (.one 10 (.take 11 (.done)))) (.one 9 (.one 3 (.one 10 (.take 11 (.done)))))) (.one 9 (.one 0 (.one 3 (.one 10 (.take 11 (.done)))))))))))))) (by kernel_rfl) (by kernel_rfl) (by kernel_rfl) (List.Sublist.refl _) ?_)) | (show drawK _ 10 _ _ _ _ _ _; (refine draw_tree tabOk mixed [] _ (.take 1 (.take 2 (.take 4 (.take 5 (.take 8 (.take 9 (.take 10 (.take 11 (.alt 0 (.alt 3 (.one 6 (.take 7 (.one 12 (.one 13 (.take 14 (.done)))))) (.one 6 (.take 7 (.alt 3 (.one 12 (.one 13 (.take 14 (.done)))) (.one 12 (.one 3 (.one 13 (.take 14 (.done))))))))) (.one 6 (.take 7 (.alt 0 (.alt 3 (.one 12 (.one 13 (.take 14 (.done)))) (.one 12 (.one 3 (.one 13 (.take 14 (.done)))))) (.one 12 (.one 0 (.one 3 (.one 13 (.take 14 (.done)))))))))))))))))) (by kernel_rfl) (by kernel_rfl) (by kernel_rfl) (List.Sublist.refl _) ?_)) | (show drawK _ 20 _ _ _ _ _ _; (refine draw_quiet tabOk mixed (by kernel_rfl) ?_)) | (show Wp _ _ _ _ _ _ _; (refine Wp.go tabOk rfl ?_)) | (show @cmpK _ _ _; (first | refine cmp_yes (by omega) ?_ | refine cmp_no (by omega) ?_ | (refine cmp_both ?_ ?_ <;> intro _))) | (show wrapK _ _ _; (refine wrap_i64 (by omega) (by omega) ?_)) | (show leK _ _ _; (refine le_of (by first | exact Nat.le_refl _ | omega) ?_)) | (show roomK _ _ _; (refine room_of (by first | omega | (dsimp only; omega)) ?_)) | (show ltK _ _ _; (refine lt_of (by omega) ?_)) | (show _ ∧ _; (refine ⟨?_, ?_⟩)) | (show keepK _ _ _ _ _; (refine keep_of (by first | exact List.Sublist.refl _ | exact List.Sublist.cons _ (List.Sublist.refl _) | exact List.Sublist.cons _ (List.Sublist.cons _ (List.Sublist.refl _)) | exact List.Sublist.cons _ (List.Sublist.cons _ (List.Sublist.cons _ (List.Sublist.refl _)))) (by first | exact (fun _ _ h => h) | exact (fun _ _ h => h.1) | exact (fun _ _ h => h.1.1)) ?_)) | (show ownK _ _ _ _ _; (refine own_keep ?_))))
    refine call_runA (f := 18) (runH ⟨(some la), lc, l, on⟩ (x.l.map IntsV.xs)) Try.call18 (fun ρ w' hw => run_all w' ⟨(some la), lc, l, on⟩ (holds_of_abs hw fun R h => hgok h.1) x (holds_of_abs hw fun R h => ⟨rowsA_in h.2.1, fun z hz => intsA_ok (hx.sane z hz) (h.2.2 z hz), hx.room, by have := hx.few; omega⟩)) (fun v hv hvs => ?_)
    generalize hr1 : (runH ⟨(some la), lc, l, on⟩ (x.l.map IntsV.xs)).1 = e1 at *
    generalize hz1 : (runH ⟨(some la), lc, l, on⟩ (x.l.map IntsV.xs)).2 = z1 at *
    (repeat' ((conv => whnf) <;> first | (show drawK _ 9 _ _ _ _ _ _; (refine draw_tree tabOk mixed [] _ (.take 1 (.take 2 (.take 4 (.take 5 (.take 6 (.take 7 (.take 8 (.alt 0 (.alt 3 (.one 9 (.one 10 (.take 11 (.done)))) (.one 9 (.one 3 (.one 10 (.take 11 (.done)))))) (.one 9 (.one 0 (.one 3 (.one 10 (.take 11 (.done)))))))))))))) (by kernel_rfl) (by kernel_rfl) (by kernel_rfl) (List.Sublist.refl _) ?_)) | (show drawK _ 10 _ _ _ _ _ _; (refine draw_tree tabOk mixed [] _ (.take 1 (.take 2 (.take 4 (.take 5 (.take 8 (.take 9 (.take 10 (.take 11 (.alt 0 (.alt 3 (.one 6 (.take 7 (.one 12 (.one 13 (.take 14 (.done)))))) (.one 6 (.take 7 (.alt 3 (.one 12 (.one 13 (.take 14 (.done)))) (.one 12 (.one 3 (.one 13 (.take 14 (.done))))))))) (.one 6 (.take 7 (.alt 0 (.alt 3 (.one 12 (.one 13 (.take 14 (.done)))) (.one 12 (.one 3 (.one 13 (.take 14 (.done)))))) (.one 12 (.one 0 (.one 3 (.one 13 (.take 14 (.done)))))))))))))))))) (by kernel_rfl) (by kernel_rfl) (by kernel_rfl) (List.Sublist.refl _) ?_)) | (show drawK _ 20 _ _ _ _ _ _; (refine draw_quiet tabOk mixed (by kernel_rfl) ?_)) | (show @cmpK _ _ _; (first | refine cmp_yes (by omega) ?_ | refine cmp_no (by omega) ?_ | (refine cmp_both ?_ ?_ <;> intro _))) | (show wrapK _ _ _; (refine wrap_i64 (by omega) (by omega) ?_)) | (show leK _ _ _; (refine le_of (by first | exact Nat.le_refl _ | omega) ?_)) | (show roomK _ _ _; (refine room_of (by first | omega | (dsimp only; omega)) ?_)) | (show ltK _ _ _; (refine lt_of (by omega) ?_)) | (show _ ∧ _; (refine ⟨?_, ?_⟩)) | (show keepK _ _ _ _ _; (refine keep_of (by first | exact List.Sublist.refl _ | exact List.Sublist.cons _ (List.Sublist.refl _) | exact List.Sublist.cons _ (List.Sublist.cons _ (List.Sublist.refl _)) | exact List.Sublist.cons _ (List.Sublist.cons _ (List.Sublist.cons _ (List.Sublist.refl _)))) (by first | exact (fun _ _ h => h) | exact (fun _ _ h => h.1) | exact (fun _ _ h => h.1.1)) ?_)) | (show ownK _ _ _ _ _; (refine own_keep ?_))))
    all_goals (conv => whnf)
    refine Wp.go tabOk rfl ?_
    (repeat' ((conv => whnf) <;> first | (show drawK _ 9 _ _ _ _ _ _; (refine draw_tree tabOk mixed [] _ (.take 1 (.take 2 (.take 4 (.take 5 (.take 6 (.take 7 (.take 8 (.alt 0 (.alt 3 (.one 9 (.one 10 (.take 11 (.done)))) (.one 9 (.one 3 (.one 10 (.take 11 (.done)))))) (.one 9 (.one 0 (.one 3 (.one 10 (.take 11 (.done)))))))))))))) (by kernel_rfl) (by kernel_rfl) (by kernel_rfl) (List.Sublist.refl _) ?_)) | (show drawK _ 10 _ _ _ _ _ _; (refine draw_tree tabOk mixed [] _ (.take 1 (.take 2 (.take 4 (.take 5 (.take 8 (.take 9 (.take 10 (.take 11 (.alt 0 (.alt 3 (.one 6 (.take 7 (.one 12 (.one 13 (.take 14 (.done)))))) (.one 6 (.take 7 (.alt 3 (.one 12 (.one 13 (.take 14 (.done)))) (.one 12 (.one 3 (.one 13 (.take 14 (.done))))))))) (.one 6 (.take 7 (.alt 0 (.alt 3 (.one 12 (.one 13 (.take 14 (.done)))) (.one 12 (.one 3 (.one 13 (.take 14 (.done)))))) (.one 12 (.one 0 (.one 3 (.one 13 (.take 14 (.done)))))))))))))))))) (by kernel_rfl) (by kernel_rfl) (by kernel_rfl) (List.Sublist.refl _) ?_)) | (show drawK _ 20 _ _ _ _ _ _; (refine draw_quiet tabOk mixed (by kernel_rfl) ?_)) | (show @cmpK _ _ _; (first | refine cmp_yes (by omega) ?_ | refine cmp_no (by omega) ?_ | (refine cmp_both ?_ ?_ <;> intro _))) | (show wrapK _ _ _; (refine wrap_i64 (by omega) (by omega) ?_)) | (show leK _ _ _; (refine le_of (by first | exact Nat.le_refl _ | omega) ?_)) | (show roomK _ _ _; (refine room_of (by first | omega | (dsimp only; omega)) ?_)) | (show ltK _ _ _; (refine lt_of (by omega) ?_)) | (show _ ∧ _; (refine ⟨?_, ?_⟩)) | (show keepK _ _ _ _ _; (refine keep_of (by first | exact List.Sublist.refl _ | exact List.Sublist.cons _ (List.Sublist.refl _) | exact List.Sublist.cons _ (List.Sublist.cons _ (List.Sublist.refl _)) | exact List.Sublist.cons _ (List.Sublist.cons _ (List.Sublist.cons _ (List.Sublist.refl _)))) (by first | exact (fun _ _ h => h) | exact (fun _ _ h => h.1) | exact (fun _ _ h => h.1.1)) ?_)) | (show ownK _ _ _ _ _; (refine own_keep ?_))))
    all_goals (conv => whnf)
    refine Wp.go tabOk rfl ?_
    (repeat' ((conv => whnf) <;> first | (show roRowsK _ _ _ _ _; (first | refine roRows_in (nodeRows_length l) (fun R w' h => rowsA_in h.1.1.2) (node_rows l) ?_ | refine roRows_in (nodeRows_length l) (fun R w' h => rowsA_in h.1.1.1.2) (node_rows l) ?_)) | (show roomK _ _ _; (refine room_of (by simp only [nodeRows_length, List.length_append, List.length_take, List.length_nil]; show _ * 120 ≤ 140737488355328; omega) ?_)) | (show leK _ _ _; (refine le_of (by first | exact Nat.le_refl _ | omega | (simp only [nodeRows_length, List.length_append, List.length_take, List.length_nil]; omega)) ?_)) | (show drawK _ 9 _ _ _ _ _ _; (refine draw_tree tabOk mixed [] _ (.take 1 (.take 2 (.take 4 (.take 5 (.take 6 (.take 7 (.take 8 (.alt 0 (.alt 3 (.one 9 (.one 10 (.take 11 (.done)))) (.one 9 (.one 3 (.one 10 (.take 11 (.done)))))) (.one 9 (.one 0 (.one 3 (.one 10 (.take 11 (.done)))))))))))))) (by kernel_rfl) (by kernel_rfl) (by kernel_rfl) (List.Sublist.refl _) ?_)) | (show drawK _ 10 _ _ _ _ _ _; (refine draw_tree tabOk mixed [] _ (.take 1 (.take 2 (.take 4 (.take 5 (.take 8 (.take 9 (.take 10 (.take 11 (.alt 0 (.alt 3 (.one 6 (.take 7 (.one 12 (.one 13 (.take 14 (.done)))))) (.one 6 (.take 7 (.alt 3 (.one 12 (.one 13 (.take 14 (.done)))) (.one 12 (.one 3 (.one 13 (.take 14 (.done))))))))) (.one 6 (.take 7 (.alt 0 (.alt 3 (.one 12 (.one 13 (.take 14 (.done)))) (.one 12 (.one 3 (.one 13 (.take 14 (.done)))))) (.one 12 (.one 0 (.one 3 (.one 13 (.take 14 (.done)))))))))))))))))) (by kernel_rfl) (by kernel_rfl) (by kernel_rfl) (List.Sublist.refl _) ?_)) | (show drawK _ 20 _ _ _ _ _ _; (refine draw_quiet tabOk mixed (by kernel_rfl) ?_)) | (show @cmpK _ _ _; (first | refine cmp_yes (by omega) ?_ | refine cmp_no (by omega) ?_ | (refine cmp_both ?_ ?_ <;> intro _))) | (show wrapK _ _ _; (refine wrap_i64 (by omega) (by omega) ?_)) | (show leK _ _ _; (refine le_of (by first | exact Nat.le_refl _ | omega) ?_)) | (show roomK _ _ _; (refine room_of (by first | omega | (dsimp only; omega)) ?_)) | (show ltK _ _ _; (refine lt_of (by omega) ?_)) | (show _ ∧ _; (refine ⟨?_, ?_⟩)) | (show keepK _ _ _ _ _; (refine keep_of (by first | exact List.Sublist.refl _ | exact List.Sublist.cons _ (List.Sublist.refl _) | exact List.Sublist.cons _ (List.Sublist.cons _ (List.Sublist.refl _)) | exact List.Sublist.cons _ (List.Sublist.cons _ (List.Sublist.cons _ (List.Sublist.refl _)))) (by first | exact (fun _ _ h => h) | exact (fun _ _ h => h.1) | exact (fun _ _ h => h.1.1)) ?_)) | (show ownK _ _ _ _ _; (refine own_keep ?_))))
    all_goals (conv => whnf)
    all_goals refine Wp.go tabOk rfl ?_
    (repeat' ((conv => whnf) <;> first | (show roRowsK _ _ _ _ _; (first | refine roRows_in (nodeRows_length l) (fun R w' h => rowsA_in h.1.1.2) (node_rows l) ?_ | refine roRows_in (nodeRows_length l) (fun R w' h => rowsA_in h.1.1.1.2) (node_rows l) ?_)) | (show roomK _ _ _; (refine room_of (by simp only [nodeRows_length, List.length_append, List.length_take, List.length_nil]; show _ * 120 ≤ 140737488355328; omega) ?_)) | (show leK _ _ _; (refine le_of (by first | exact Nat.le_refl _ | omega | (simp only [nodeRows_length, List.length_append, List.length_take, List.length_nil]; omega)) ?_)) | (show ownK _ _ _ _ _; (first | refine freeze_intsI (w0 := w) [-1] (fun R w' h => h.1.1.1.1) rfl rfl (few_i64 rfl) (by decide) (fun q hq hqs => ?_) | refine own_keep ?_)) | (show drawK _ 9 _ _ _ _ _ _; (refine draw_tree tabOk mixed [] _ (.take 1 (.take 2 (.take 4 (.take 5 (.take 6 (.take 7 (.take 8 (.alt 0 (.alt 3 (.one 9 (.one 10 (.take 11 (.done)))) (.one 9 (.one 3 (.one 10 (.take 11 (.done)))))) (.one 9 (.one 0 (.one 3 (.one 10 (.take 11 (.done)))))))))))))) (by kernel_rfl) (by kernel_rfl) (by kernel_rfl) (List.Sublist.refl _) ?_)) | (show drawK _ 10 _ _ _ _ _ _; (refine draw_tree tabOk mixed [] _ (.take 1 (.take 2 (.take 4 (.take 5 (.take 8 (.take 9 (.take 10 (.take 11 (.alt 0 (.alt 3 (.one 6 (.take 7 (.one 12 (.one 13 (.take 14 (.done)))))) (.one 6 (.take 7 (.alt 3 (.one 12 (.one 13 (.take 14 (.done)))) (.one 12 (.one 3 (.one 13 (.take 14 (.done))))))))) (.one 6 (.take 7 (.alt 0 (.alt 3 (.one 12 (.one 13 (.take 14 (.done)))) (.one 12 (.one 3 (.one 13 (.take 14 (.done)))))) (.one 12 (.one 0 (.one 3 (.one 13 (.take 14 (.done)))))))))))))))))) (by kernel_rfl) (by kernel_rfl) (by kernel_rfl) (List.Sublist.refl _) ?_)) | (show drawK _ 20 _ _ _ _ _ _; (refine draw_quiet tabOk mixed (by kernel_rfl) ?_)) | (show @cmpK _ _ _; (first | refine cmp_yes (by omega) ?_ | refine cmp_no (by omega) ?_ | (refine cmp_both ?_ ?_ <;> intro _))) | (show wrapK _ _ _; (refine wrap_i64 (by omega) (by omega) ?_)) | (show leK _ _ _; (refine le_of (by first | exact Nat.le_refl _ | omega) ?_)) | (show roomK _ _ _; (refine room_of (by first | omega | (dsimp only; omega)) ?_)) | (show ltK _ _ _; (refine lt_of (by omega) ?_)) | (show _ ∧ _; (refine ⟨?_, ?_⟩)) | (show keepK _ _ _ _ _; (refine keep_of (by first | exact List.Sublist.refl _ | exact List.Sublist.cons _ (List.Sublist.refl _) | exact List.Sublist.cons _ (List.Sublist.cons _ (List.Sublist.refl _)) | exact List.Sublist.cons _ (List.Sublist.cons _ (List.Sublist.cons _ (List.Sublist.refl _)))) (by first | exact (fun _ _ h => h) | exact (fun _ _ h => h.1) | exact (fun _ _ h => h.1.1)) ?_)) | (show ownK _ _ _ _ _; (refine own_keep ?_))))
    all_goals (conv => whnf)
    all_goals refine freezeE 7 w.heap.size (k := 9) (ys := nodeRows (l ++ [addN on on])) (T := 38) (by repeat (first | exact List.mem_cons_self | apply List.mem_cons_of_mem)) (rows_cat (by simp) rfl) (fun R w' h b hb => (h.1.1.1.1.1 b hb).1) (fun l2 hl2 => ?_)
    all_goals refine freezeE 12 w.heap.size (k := 9) (ys := nodeRows (l ++ [negN on q, addN on l.length])) (T := 38) (by repeat (first | exact List.mem_cons_self | apply List.mem_cons_of_mem)) (rows_cat (by simp) rfl) (fun R w' h b hb => (h.1.1.1.1.1.1 b hb).1) (fun l3 hl3 => ?_)
    all_goals (have hN1 : ∀ {R : Nat → Prop} {w' : World}, ((nodesD l).past w.heap.size).holds R w' → (nodesD l).holds R w' := fun h => (nodesD l).mono h (fun b hb => hb.1))
    all_goals (have hinv : ∀ {R : Nat → Prop} {w' : World}, ((shapesD x).past w.heap.size).holds R w' → InV.ok w' x := fun h => ⟨rowsA_in h.1, fun z hz => intsA_ok (hx.sane z hz) (h.2 z hz), hx.room, by have := hx.few; omega⟩)
    all_goals (have hg2 : ∀ {R : Nat → Prop} {w' : World}, ((nodesD l).past w.heap.size).holds R w' → ((rowsA l2.base 9 (nodeRows (l ++ [addN on on]))).past w.heap.size).holds R w' → (⟨l2.base, l2.cap, l ++ [addN on on], l.length⟩ : GraphV).ok w' := fun hn hr => graph_ok (made_add hms (by omega) (by omega) (by omega) rfl).made.each (by simp; omega) (rowsA_in hr) ((nodesD _).mono (nodesD_snoc hn (nodeD_plain _ _ _ _ _ _ _ _)) (fun b hb => hb.1)) ⟨by omega, by omega⟩)
    all_goals (have hg3 : ∀ {R : Nat → Prop} {w' : World}, ((nodesD l).past w.heap.size).holds R w' → ((intsA q).past w.heap.size).holds R w' → ((rowsA l3.base 9 (nodeRows (l ++ [negN on q, addN on l.length]))).past w.heap.size).holds R w' → (⟨l3.base, l3.cap, l ++ [negN on q, addN on l.length], l.length + 1⟩ : GraphV).ok w' := fun hn hqd hr => less_ok hms h8 (show on < l.length by omega) hqs hq hn hqd hr)
    (repeat' ((conv => whnf) <;> first | (show drawK _ 9 _ _ _ _ _ _; (refine draw_tree tabOk mixed [] _ (.take 1 (.take 2 (.take 4 (.take 5 (.take 6 (.take 7 (.take 8 (.alt 0 (.alt 3 (.one 9 (.one 10 (.take 11 (.done)))) (.one 9 (.one 3 (.one 10 (.take 11 (.done)))))) (.one 9 (.one 0 (.one 3 (.one 10 (.take 11 (.done)))))))))))))) (by kernel_rfl) (by kernel_rfl) (by kernel_rfl) (List.Sublist.refl _) ?_)) | (show drawK _ 10 _ _ _ _ _ _; (refine draw_tree tabOk mixed [] _ (.take 1 (.take 2 (.take 4 (.take 5 (.take 8 (.take 9 (.take 10 (.take 11 (.alt 0 (.alt 3 (.one 6 (.take 7 (.one 12 (.one 13 (.take 14 (.done)))))) (.one 6 (.take 7 (.alt 3 (.one 12 (.one 13 (.take 14 (.done)))) (.one 12 (.one 3 (.one 13 (.take 14 (.done))))))))) (.one 6 (.take 7 (.alt 0 (.alt 3 (.one 12 (.one 13 (.take 14 (.done)))) (.one 12 (.one 3 (.one 13 (.take 14 (.done)))))) (.one 12 (.one 0 (.one 3 (.one 13 (.take 14 (.done)))))))))))))))))) (by kernel_rfl) (by kernel_rfl) (by kernel_rfl) (List.Sublist.refl _) ?_)) | (show drawK _ 20 _ _ _ _ _ _; (refine draw_quiet tabOk mixed (by kernel_rfl) ?_)) | (show Wp _ _ _ _ _ _ _; (refine Wp.go tabOk rfl ?_)) | (show @cmpK _ _ _; (first | refine cmp_yes (by omega) ?_ | refine cmp_no (by omega) ?_ | (refine cmp_both ?_ ?_ <;> intro _))) | (show wrapK _ _ _; (refine wrap_i64 (by omega) (by omega) ?_)) | (show leK _ _ _; (refine le_of (by first | exact Nat.le_refl _ | omega) ?_)) | (show roomK _ _ _; (refine room_of (by first | omega | (dsimp only; omega)) ?_)) | (show ltK _ _ _; (refine lt_of (by omega) ?_)) | (show _ ∧ _; (refine ⟨?_, ?_⟩)) | (show keepK _ _ _ _ _; (refine keep_of (by first | exact List.Sublist.refl _ | exact List.Sublist.cons _ (List.Sublist.refl _) | exact List.Sublist.cons _ (List.Sublist.cons _ (List.Sublist.refl _)) | exact List.Sublist.cons _ (List.Sublist.cons _ (List.Sublist.cons _ (List.Sublist.refl _)))) (by first | exact (fun _ _ h => h) | exact (fun _ _ h => h.1) | exact (fun _ _ h => h.1.1)) ?_)) | (show ownK _ _ _ _ _; (refine own_keep ?_))))
    all_goals refine call_runA (f := 18) (runH ⟨l2.base, l2.cap, l ++ [addN on on], l.length⟩ (x.l.map IntsV.xs)) Try.call18 (fun ρ w' hw => by
      have := run_all w' ⟨l2.base, l2.cap, l ++ [addN on on], l.length⟩ (holds_of_abs hw fun R h => hg2 h.1.1.1.1.1.1.2 h.1.2) x (holds_of_abs hw fun R h => hinv h.1.1.1.1.2)
      have e : (l ++ [addN on on]).length = 0 + (nodeRows l).length + 1 := by simp [nodeRows]
      unfold GraphV.val at this
      rw [e] at this
      exact this) (fun x1 hx1 hs1 => ?_)
    (repeat' ((conv => whnf) <;> first | (show drawK _ 9 _ _ _ _ _ _; (refine draw_tree tabOk mixed [] _ (.take 1 (.take 2 (.take 4 (.take 5 (.take 6 (.take 7 (.take 8 (.alt 0 (.alt 3 (.one 9 (.one 10 (.take 11 (.done)))) (.one 9 (.one 3 (.one 10 (.take 11 (.done)))))) (.one 9 (.one 0 (.one 3 (.one 10 (.take 11 (.done)))))))))))))) (by kernel_rfl) (by kernel_rfl) (by kernel_rfl) (List.Sublist.refl _) ?_)) | (show drawK _ 10 _ _ _ _ _ _; (refine draw_tree tabOk mixed [] _ (.take 1 (.take 2 (.take 4 (.take 5 (.take 8 (.take 9 (.take 10 (.take 11 (.alt 0 (.alt 3 (.one 6 (.take 7 (.one 12 (.one 13 (.take 14 (.done)))))) (.one 6 (.take 7 (.alt 3 (.one 12 (.one 13 (.take 14 (.done)))) (.one 12 (.one 3 (.one 13 (.take 14 (.done))))))))) (.one 6 (.take 7 (.alt 0 (.alt 3 (.one 12 (.one 13 (.take 14 (.done)))) (.one 12 (.one 3 (.one 13 (.take 14 (.done)))))) (.one 12 (.one 0 (.one 3 (.one 13 (.take 14 (.done)))))))))))))))))) (by kernel_rfl) (by kernel_rfl) (by kernel_rfl) (List.Sublist.refl _) ?_)) | (show drawK _ 20 _ _ _ _ _ _; (refine draw_quiet tabOk mixed (by kernel_rfl) ?_)) | (show Wp _ _ _ _ _ _ _; (refine Wp.go tabOk rfl ?_)) | (show @cmpK _ _ _; (first | refine cmp_yes (by omega) ?_ | refine cmp_no (by omega) ?_ | (refine cmp_both ?_ ?_ <;> intro _))) | (show wrapK _ _ _; (refine wrap_i64 (by omega) (by omega) ?_)) | (show leK _ _ _; (refine le_of (by first | exact Nat.le_refl _ | omega) ?_)) | (show roomK _ _ _; (refine room_of (by first | omega | (dsimp only; omega)) ?_)) | (show ltK _ _ _; (refine lt_of (by omega) ?_)) | (show _ ∧ _; (refine ⟨?_, ?_⟩)) | (show keepK _ _ _ _ _; (refine keep_of (by first | exact List.Sublist.refl _ | exact List.Sublist.cons _ (List.Sublist.refl _) | exact List.Sublist.cons _ (List.Sublist.cons _ (List.Sublist.refl _)) | exact List.Sublist.cons _ (List.Sublist.cons _ (List.Sublist.cons _ (List.Sublist.refl _)))) (by first | exact (fun _ _ h => h) | exact (fun _ _ h => h.1) | exact (fun _ _ h => h.1.1)) ?_)) | (show ownK _ _ _ _ _; (refine own_keep ?_))))
    all_goals refine call_runA (f := 18) (runH ⟨l3.base, l3.cap, l ++ [negN on q, addN on l.length], l.length + 1⟩ (x.l.map IntsV.xs)) Try.call18 (fun ρ w' hw => by
      have := run_all w' ⟨l3.base, l3.cap, l ++ [negN on q, addN on l.length], l.length + 1⟩ (holds_of_abs hw fun R h => hg3 h.1.1.1.1.1.1.1.2 h.1.1.1.2 h.1.2) x (holds_of_abs hw fun R h => hinv h.1.1.1.1.1.2)
      have e : (l ++ [negN on q, addN on l.length]).length = 0 + (nodeRows l).length + 2 := by simp [nodeRows]
      unfold GraphV.val at this
      rw [e] at this
      exact this) (fun x2 hx2 hs2 => ?_)
    all_goals (have hcase := sums_case hms h8 hx.good (show on < l.length by omega) hqs hq (some la) l2.base l3.base lc l2.cap l3.cap)
    all_goals (rw [hr1, hz1] at hcase)
    all_goals (generalize (runH ⟨l2.base, l2.cap, l ++ [addN on on], l.length⟩ (x.l.map IntsV.xs)).1 = e2 at *)
    all_goals (generalize (runH ⟨l2.base, l2.cap, l ++ [addN on on], l.length⟩ (x.l.map IntsV.xs)).2 = z2 at *)
    all_goals (generalize (runH ⟨l3.base, l3.cap, l ++ [negN on q, addN on l.length], l.length + 1⟩ (x.l.map IntsV.xs)).1 = e3 at *)
    all_goals (generalize (runH ⟨l3.base, l3.cap, l ++ [negN on q, addN on l.length], l.length + 1⟩ (x.l.map IntsV.xs)).2 = z3 at *)
    all_goals rcases hcase with rfl | ⟨vv, rfl, rfl, hvb, hvl, rfl | ⟨rfl, hw2⟩, rfl | ⟨rfl, hw3⟩⟩
    all_goals first | (have q2 := (hx1 rfl).trans hw2; have q3 := (hx2 rfl).trans hw3; have q1 := hv rfl; clear hx1 hx2 hv) | ((repeat' ((conv => whnf) <;> first | (show @cmpK _ _ _; (first | refine cmp_yes (by decide) ?_ | refine cmp_no (by decide) ?_)) | (show drawK _ 9 _ _ _ _ _ _; (refine draw_tree tabOk mixed [] _ (.take 1 (.take 2 (.take 4 (.take 5 (.take 6 (.take 7 (.take 8 (.alt 0 (.alt 3 (.one 9 (.one 10 (.take 11 (.done)))) (.one 9 (.one 3 (.one 10 (.take 11 (.done)))))) (.one 9 (.one 0 (.one 3 (.one 10 (.take 11 (.done)))))))))))))) (by kernel_rfl) (by kernel_rfl) (by kernel_rfl) (List.Sublist.refl _) ?_)) | (show drawK _ 10 _ _ _ _ _ _; (refine draw_tree tabOk mixed [] _ (.take 1 (.take 2 (.take 4 (.take 5 (.take 8 (.take 9 (.take 10 (.take 11 (.alt 0 (.alt 3 (.one 6 (.take 7 (.one 12 (.one 13 (.take 14 (.done)))))) (.one 6 (.take 7 (.alt 3 (.one 12 (.one 13 (.take 14 (.done)))) (.one 12 (.one 3 (.one 13 (.take 14 (.done))))))))) (.one 6 (.take 7 (.alt 0 (.alt 3 (.one 12 (.one 13 (.take 14 (.done)))) (.one 12 (.one 3 (.one 13 (.take 14 (.done)))))) (.one 12 (.one 0 (.one 3 (.one 13 (.take 14 (.done)))))))))))))))))) (by kernel_rfl) (by kernel_rfl) (by kernel_rfl) (List.Sublist.refl _) ?_)) | (show drawK _ 20 _ _ _ _ _ _; (refine draw_quiet tabOk mixed (by kernel_rfl) ?_)) | (show Wp _ _ _ _ _ _ _; (refine Wp.go tabOk rfl ?_)) | (show @cmpK _ _ _; (first | refine cmp_yes (by omega) ?_ | refine cmp_no (by omega) ?_ | (refine cmp_both ?_ ?_ <;> intro _))) | (show wrapK _ _ _; (refine wrap_i64 (by omega) (by omega) ?_)) | (show leK _ _ _; (refine le_of (by first | exact Nat.le_refl _ | omega) ?_)) | (show roomK _ _ _; (refine room_of (by first | omega | (dsimp only; omega)) ?_)) | (show ltK _ _ _; (refine lt_of (by omega) ?_)) | (show _ ∧ _; (refine ⟨?_, ?_⟩)) | (show keepK _ _ _ _ _; (refine keep_of (by first | exact List.Sublist.refl _ | exact List.Sublist.cons _ (List.Sublist.refl _) | exact List.Sublist.cons _ (List.Sublist.cons _ (List.Sublist.refl _)) | exact List.Sublist.cons _ (List.Sublist.cons _ (List.Sublist.cons _ (List.Sublist.refl _)))) (by first | exact (fun _ _ h => h) | exact (fun _ _ h => h.1) | exact (fun _ _ h => h.1.1)) ?_)) | (show ownK _ _ _ _ _; (refine own_keep ?_)))); (conv => whnf); exact ends_bool (fun _ _ h => h.1.1.1.1.1.1.1.1.1) rfl rfl)
    all_goals (have n2 : x1.xs.length = v.xs.length := by rw [q2, q1, List.length_map])
    all_goals (have n3 : x2.xs.length = v.xs.length := by rw [q3, q1, List.length_map])
    all_goals (have hvl2 : v.xs.length ≤ 64 := by rw [q1]; exact hvl)
    all_goals (have hvb2 : ∀ x ∈ v.xs, bd20 x := by rw [q1]; exact hvb)
    all_goals (have q4 : x1.xs = v.xs.map fun x => 2 * x := by rw [q1]; exact q2)
    all_goals (have q5 : x2.xs = v.xs.map fun _ => 0 := by rw [q1]; exact q3)
    (repeat' ((conv => whnf) <;> first | (show drawK _ 9 _ _ _ _ _ _; (refine draw_tree tabOk mixed [] _ (.take 1 (.take 2 (.take 4 (.take 5 (.take 6 (.take 7 (.take 8 (.alt 0 (.alt 3 (.one 9 (.one 10 (.take 11 (.done)))) (.one 9 (.one 3 (.one 10 (.take 11 (.done)))))) (.one 9 (.one 0 (.one 3 (.one 10 (.take 11 (.done)))))))))))))) (by kernel_rfl) (by kernel_rfl) (by kernel_rfl) (List.Sublist.refl _) ?_)) | (show drawK _ 10 _ _ _ _ _ _; (refine draw_tree tabOk mixed [] _ (.take 1 (.take 2 (.take 4 (.take 5 (.take 8 (.take 9 (.take 10 (.take 11 (.alt 0 (.alt 3 (.one 6 (.take 7 (.one 12 (.one 13 (.take 14 (.done)))))) (.one 6 (.take 7 (.alt 3 (.one 12 (.one 13 (.take 14 (.done)))) (.one 12 (.one 3 (.one 13 (.take 14 (.done))))))))) (.one 6 (.take 7 (.alt 0 (.alt 3 (.one 12 (.one 13 (.take 14 (.done)))) (.one 12 (.one 3 (.one 13 (.take 14 (.done)))))) (.one 12 (.one 0 (.one 3 (.one 13 (.take 14 (.done)))))))))))))))))) (by kernel_rfl) (by kernel_rfl) (by kernel_rfl) (List.Sublist.refl _) ?_)) | (show drawK _ 20 _ _ _ _ _ _; (refine draw_quiet tabOk mixed (by kernel_rfl) ?_)) | (show Wp _ _ _ _ _ _ _; (refine Wp.go tabOk rfl ?_)) | (show @cmpK _ _ _; (first | refine cmp_yes (by omega) ?_ | refine cmp_no (by omega) ?_ | (refine cmp_both ?_ ?_ <;> intro _))) | (show wrapK _ _ _; (refine wrap_i64 (by omega) (by omega) ?_)) | (show leK _ _ _; (refine le_of (by first | exact Nat.le_refl _ | omega) ?_)) | (show roomK _ _ _; (refine room_of (by first | omega | (dsimp only; omega)) ?_)) | (show ltK _ _ _; (refine lt_of (by omega) ?_)) | (show _ ∧ _; (refine ⟨?_, ?_⟩)) | (show keepK _ _ _ _ _; (refine keep_of (by first | exact List.Sublist.refl _ | exact List.Sublist.cons _ (List.Sublist.refl _) | exact List.Sublist.cons _ (List.Sublist.cons _ (List.Sublist.refl _)) | exact List.Sublist.cons _ (List.Sublist.cons _ (List.Sublist.cons _ (List.Sublist.refl _)))) (by first | exact (fun _ _ h => h) | exact (fun _ _ h => h.1) | exact (fun _ _ h => h.1.1)) ?_)) | (show ownK _ _ _ _ _; (refine own_keep ?_))))
    all_goals (conv => whnf)
    all_goals refine Wp.loop (σ := Nat) 13 (fun i => [(7, .c v.val), (12, .c x1.val), (14, .c x2.val), (120, .c (.int .i64 v.xs.length)), (121, .c (.int .i64 i))]) (fun _ => []) (fun _ => (((baseA w).and ((intsA v).past w.heap.size)).and ((intsA x1).past w.heap.size)).and ((intsA x2).past w.heap.size)) (fun i => i ≤ v.xs.length) (fun i => v.xs.length - i) 0 [] (by decide) (fun s => ⟨rfl, rfl⟩) (Nat.zero_le _) ⟨rfl, ⟨rfl, rfl, rfl, rfl, rfl, trivial⟩, trivial, fun _ _ h => ⟨⟨⟨h.1.1.1.1.1.1.1.1.1, h.1.1.1.1.1.2⟩, h.1.2⟩, h.2⟩⟩ ?_
    all_goals rintro i hi
    all_goals by_cases hlt : i < v.xs.length
    all_goals try (refine Wp.know (p := ∃ a, v.base = some a) (fun ρ w' hw => holds_of_abs hw fun R h => base_some (j := i) (rowsA_in h.1.1.2) (by rw [ints_length]; exact hlt)) ?_; rintro ⟨va, hva⟩)
    all_goals try (refine Wp.know (p := ∃ a, x1.base = some a) (fun ρ w' hw => holds_of_abs hw fun R h => base_some (j := i) (rowsA_in h.1.2) (by rw [ints_length, n2]; exact hlt)) ?_; rintro ⟨ya, hya⟩)
    all_goals try (refine Wp.know (p := ∃ a, x2.base = some a) (fun ρ w' hw => holds_of_abs hw fun R h => base_some (j := i) (rowsA_in h.2) (by rw [ints_length, n3]; exact hlt)) ?_; rintro ⟨za, hza⟩)
    all_goals try (have r4 : x1.xs.getD i 0 = 2 * v.xs.getD i 0 := by rw [q4, List.getD_eq_getElem?_getD, List.getElem?_map, List.getD_eq_getElem?_getD, List.getElem?_eq_getElem hlt]; rfl)
    all_goals try (have r5 : x2.xs.getD i 0 = 0 := by rw [q5, List.getD_eq_getElem?_getD, List.getElem?_map, List.getElem?_eq_getElem hlt]; rfl)
    all_goals try (have r6 : bd20 (v.xs.getD i 0) := getD_bd hvb2 i; unfold bd20 at r6)
    (repeat' ((conv => whnf) <;> first | (show idxK _ _ _ _ _; (first | refine idx_of ya i hya rfl (by omega) ?_ | refine idx_of va i hva rfl (by omega) ?_ | refine idx_of za i hza rfl (by omega) ?_)) | (show roK _ _ _; (first | refine ro_intv (fun R w' h => by rw [← hya]; exact rowsA_in h.1.2) (j := i) (by omega) r4 ?_ | refine ro_intv (fun R w' h => by rw [← hva]; exact rowsA_in h.1.1.2) (j := i) (by omega) rfl ?_ | refine ro_intv (fun R w' h => by rw [← hza]; exact rowsA_in h.2) (j := i) (by omega) r5 ?_)) | (show drawK _ 9 _ _ _ _ _ _; (refine draw_tree tabOk mixed [] _ (.take 1 (.take 2 (.take 4 (.take 5 (.take 6 (.take 7 (.take 8 (.alt 0 (.alt 3 (.one 9 (.one 10 (.take 11 (.done)))) (.one 9 (.one 3 (.one 10 (.take 11 (.done)))))) (.one 9 (.one 0 (.one 3 (.one 10 (.take 11 (.done)))))))))))))) (by kernel_rfl) (by kernel_rfl) (by kernel_rfl) (List.Sublist.refl _) ?_)) | (show drawK _ 10 _ _ _ _ _ _; (refine draw_tree tabOk mixed [] _ (.take 1 (.take 2 (.take 4 (.take 5 (.take 8 (.take 9 (.take 10 (.take 11 (.alt 0 (.alt 3 (.one 6 (.take 7 (.one 12 (.one 13 (.take 14 (.done)))))) (.one 6 (.take 7 (.alt 3 (.one 12 (.one 13 (.take 14 (.done)))) (.one 12 (.one 3 (.one 13 (.take 14 (.done))))))))) (.one 6 (.take 7 (.alt 0 (.alt 3 (.one 12 (.one 13 (.take 14 (.done)))) (.one 12 (.one 3 (.one 13 (.take 14 (.done)))))) (.one 12 (.one 0 (.one 3 (.one 13 (.take 14 (.done)))))))))))))))))) (by kernel_rfl) (by kernel_rfl) (by kernel_rfl) (List.Sublist.refl _) ?_)) | (show drawK _ 20 _ _ _ _ _ _; (refine draw_quiet tabOk mixed (by kernel_rfl) ?_)) | (show Wp _ _ _ _ _ _ _; (refine Wp.go tabOk rfl ?_)) | (show @cmpK _ _ _; (first | refine cmp_yes (by omega) ?_ | refine cmp_no (by omega) ?_ | (refine cmp_both ?_ ?_ <;> intro _))) | (show wrapK _ _ _; (refine wrap_i64 (by omega) (by omega) ?_)) | (show leK _ _ _; (refine le_of (by first | exact Nat.le_refl _ | omega) ?_)) | (show roomK _ _ _; (refine room_of (by first | omega | (dsimp only; omega)) ?_)) | (show ltK _ _ _; (refine lt_of (by omega) ?_)) | (show _ ∧ _; (refine ⟨?_, ?_⟩)) | (show keepK _ _ _ _ _; (refine keep_of (by first | exact List.Sublist.refl _ | exact List.Sublist.cons _ (List.Sublist.refl _) | exact List.Sublist.cons _ (List.Sublist.cons _ (List.Sublist.refl _)) | exact List.Sublist.cons _ (List.Sublist.cons _ (List.Sublist.cons _ (List.Sublist.refl _)))) (by first | exact (fun _ _ h => h) | exact (fun _ _ h => h.1) | exact (fun _ _ h => h.1.1)) ?_)) | (show ownK _ _ _ _ _; (refine own_keep ?_))))
    all_goals (conv => whnf)
    all_goals first | exact ⟨i + 1, [], by omega, by omega, rfl, ⟨rfl, rfl, rfl, rfl, rfl, trivial⟩, trivial, fun _ _ h => h⟩ | exact ends_bool (fun _ _ h => h.1.1.1) rfl rfl
  · refine calls_of tab tabOk Try.func3 rfl rfl rfl [] (fun _ => ⟨none, 0⟩) [.c t.val, .c d.val] [] (baseA w) 0 rfl rfl (by show 2 ≤ _; decide) (abs_base w) ?_
    (repeat' ((conv => whnf) <;> first | (show callK _ 15 _ _ _ _ _; (refine call_pure (f := 15) Try.call15 (.bool true) (fun ρ w' hw => fixed17_any w') ?_)) | (show drawK _ 9 _ _ _ _ _ _; (refine draw_tree tabOk mixed [] _ (.take 1 (.take 2 (.take 4 (.take 5 (.take 6 (.take 7 (.take 8 (.alt 0 (.alt 3 (.one 9 (.one 10 (.take 11 (.done)))) (.one 9 (.one 3 (.one 10 (.take 11 (.done)))))) (.one 9 (.one 0 (.one 3 (.one 10 (.take 11 (.done)))))))))))))) (by kernel_rfl) (by kernel_rfl) (by kernel_rfl) (List.Sublist.refl _) ?_)) | (show drawK _ 10 _ _ _ _ _ _; (refine draw_tree tabOk mixed [] _ (.take 1 (.take 2 (.take 4 (.take 5 (.take 8 (.take 9 (.take 10 (.take 11 (.alt 0 (.alt 3 (.one 6 (.take 7 (.one 12 (.one 13 (.take 14 (.done)))))) (.one 6 (.take 7 (.alt 3 (.one 12 (.one 13 (.take 14 (.done)))) (.one 12 (.one 3 (.one 13 (.take 14 (.done))))))))) (.one 6 (.take 7 (.alt 0 (.alt 3 (.one 12 (.one 13 (.take 14 (.done)))) (.one 12 (.one 3 (.one 13 (.take 14 (.done)))))) (.one 12 (.one 0 (.one 3 (.one 13 (.take 14 (.done)))))))))))))))))) (by kernel_rfl) (by kernel_rfl) (by kernel_rfl) (List.Sublist.refl _) ?_)) | (show drawK _ 20 _ _ _ _ _ _; (refine draw_quiet tabOk mixed (by kernel_rfl) ?_)) | (show Wp _ _ _ _ _ _ _; (refine Wp.go tabOk rfl ?_)) | (show @cmpK _ _ _; (first | refine cmp_yes (by omega) ?_ | refine cmp_no (by omega) ?_ | (refine cmp_both ?_ ?_ <;> intro _))) | (show wrapK _ _ _; (refine wrap_i64 (by omega) (by omega) ?_)) | (show leK _ _ _; (refine le_of (by first | exact Nat.le_refl _ | omega) ?_)) | (show roomK _ _ _; (refine room_of (by first | omega | (dsimp only; omega)) ?_)) | (show ltK _ _ _; (refine lt_of (by omega) ?_)) | (show _ ∧ _; (refine ⟨?_, ?_⟩)) | (show keepK _ _ _ _ _; (refine keep_of (by first | exact List.Sublist.refl _ | exact List.Sublist.cons _ (List.Sublist.refl _) | exact List.Sublist.cons _ (List.Sublist.cons _ (List.Sublist.refl _)) | exact List.Sublist.cons _ (List.Sublist.cons _ (List.Sublist.cons _ (List.Sublist.refl _)))) (by first | exact (fun _ _ h => h) | exact (fun _ _ h => h.1) | exact (fun _ _ h => h.1.1)) ?_)) | (show ownK _ _ _ _ _; (refine own_keep ?_))))
    all_goals (conv => whnf)
    all_goals first | exact ends_bool (fun _ _ h => h) rfl rfl | (exfalso; omega)
end Go.Proofs.Ytdmkdogakbipbaa
