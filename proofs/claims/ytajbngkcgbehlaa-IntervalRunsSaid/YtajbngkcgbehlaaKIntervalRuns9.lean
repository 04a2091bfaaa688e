import Derived.DeepKeys
import Derived.Test.YtajbngkcgbehlaaKIntervalRuns8
/- JP -/
namespace Go.Proofs.Ytajbngkcgbehlaa
open Go.SX Go.RowKit
theorem spRows_getD {l : List Sp} {k : Nat} (h : k < l.length) : (spRows l)[k]? = some [.int .i64 (l.getD k (0, 0)).1, .int .i64 (l.getD k (0, 0)).2] := by
  rw [spRows_get h, List.getD_eq_getElem?_getD, List.getElem?_eq_getElem h]; rfl
set_option maxRecDepth 20000 in
set_option maxHeartbeats 4000000 in
theorem span_lin (w : World) (n : NodeV) (sh : List (List Int)) (s : List Int) (sv : ShapesV) (hs : sv.ok w) (t : IntsV) (cnt : Nat) (h : PlaceIn n sh s t.xs cnt) (hl : isLin n) (hno : n.ok w) (ht : sv.l[n.a.toNat]? = some t) (ha0 : 0 ≤ n.a) (b2 : Option Addr) (c2 : Nat) (acc : List Sp) (hacc : RowsI w b2 2 (spRows acc)) (hlt : n.a.toNat < acc.length) (hbd : bd20 (acc.getD n.a.toNat (0, 0)).1 ∧ bd20 (acc.getD n.a.toNat (0, 0)).2) : Calls Try.prog 79 #[n.valA, sv.val, .slice b2 acc.length c2] w fun e w' => e = .returned (spanV (spanE (linEnds n cnt (termsG n t.xs) (acc.getD n.a.toNat (0, 0))))) ∧ Ext w w' := by
  obtain ⟨htl, hte⟩ := List.getElem?_eq_some_iff.1 ht
  have htm : t ∈ sv.l := hte ▸ List.getElem_mem htl
  have hto := hs.each t htm
  obtain ⟨a2, ha2⟩ : ∃ a, b2 = some a := base_some (j := n.a.toNat) hacc (by rw [spRows_length]; exact hlt)
  obtain ⟨sa, hsa⟩ : ∃ a, sv.base = some a := base_some (j := n.a.toNat) hs.rows (by rw [shRows_length]; exact htl)
  have hrowA := spRows_getD hlt
  have hrowT : (shRows sv.l)[n.a.toNat]? = some [t.val] := by rw [shRows_get htl, hte]
  have hna : n.a = (n.a.toNat : Int) := (Int.toNat_of_nonneg ha0).symm
  have hfew := h.few
  have hsums : ∀ o, o < cnt → ∀ g : Nat → Int → Int, (∀ k, g k 0 = 0) → sumG g 0 (matRow n t.xs o) = sumT g (termsG n t.xs o) := fun o ho g hg => mat_sum h hl ho g hg
  have hrl : ∀ o, o < cnt → (matRow n t.xs o).length = (entries t.xs).toNat := fun o ho => mat_len h ho
  have hrb : ∀ o, ∀ x ∈ matRow n t.xs o, bd20 x := fun o => mat_bd h hl o
  obtain ⟨nd, nb, _, _, _⟩ := near_in h.node.near
  have hsz := (entries_bd t.xs).2
  have hmat : ∀ w', n.ok w' → t.ok w' → Calls Try.prog 112 #[n.valA, t.val] w' (MatPost w' n t.xs cnt) := fun w' h1 h2 => mat_all w' n sh s t cnt h hl h1 h2
  have hpos : 1 ≤ (entries t.xs).toNat := by have := (h.first hl).2; omega
  have hkind : n.kind = 3 ∨ n.kind = 4 ∨ n.kind = 5 := hl
  have hTbf : (∀ o, o < cnt → (termsG n t.xs o).length ≤ 64) ∧ ∀ o, o < cnt → ∀ s ∈ termsG n t.xs o, bd20 s.1 := by
    obtain ⟨F, P0, hL⟩ := h.lin hl
    exact ⟨(hL.terms w hto hno).few, (hL.terms w hto hno).bd⟩
  generalize acc.getD n.a.toNat (0, 0) = a at *
  obtain ⟨ha1, hah⟩ := hbd
  clear hl
  have hlinC : ∀ w', Calls Try.prog 111 #[.int .i64 n.kind] w' fun e w'' => e = .returned (.bool true) ∧ Ext w' w'' := fun w' => by
    have := linear_any w' n.kind
    rw [decide_eq_true hkind] at this
    exact this
  refine calls_of tab tabOk Try.func79 rfl rfl rfl [] (fun _ => ⟨none, 0⟩) [.agg [.c (.int .i64 n.kind), .c (.int .i64 n.a), .c (.int .i64 n.b), .c n.shape.val, .c (.int .i64 n.lo), .c (.int .i64 n.hi), .c (.int .i64 n.size), .c n.data.val, .c n.bias.val], .c sv.val, .c (.slice b2 acc.length c2)] [] (baseA w) 0 rfl rfl (by show 3 ≤ _; decide) (abs_base w) ?_
  (repeat' ((conv => whnf) <;> first | (show callK _ 111 _ _ _ _ _; (refine call_pure (f := 111) Try.call111 (.bool true) (fun ρ w' hw => hlinC w') ?_)) | (show idxK _ _ _ _ _; (first | refine idx_of a2 n.a.toNat ha2 hna hlt ?_ | refine idx_of sa n.a.toNat hsa hna htl ?_)) | (show roAggK _ _ _ _; (refine roAgg_row (fun R w' h => by rw [← ha2]; exact rows_base h hacc) _ hrowA rfl ?_)) | (show roK _ _ _; (refine ro_row0 (fun R w' h => by rw [← hsa]; exact rows_base h hs.rows) _ _ hrowT rfl ?_)) | (show callK _ 112 _ _ _ _ _; (refine call_mat (f := 112) n t.xs cnt Try.call112 (fun ρ w' hw => hmat w' (holds_of_abs hw fun R h => hno.later h) (holds_of_abs hw fun R h => hto.later h)) (fun x hx => ?_))) | (show drawK _ 8 _ _ _ _ _ _; (refine draw_tree tabOk mixed [] _ (.take 0 (.take 1 (.take 2 (.take 3 (.take 4 (.take 5 (.one 6 (.take 7 (.take 8 (.take 9 (.take 10 (.take 11 (.done))))))))))))) (by kernel_rfl) (by kernel_rfl) (by kernel_rfl) (List.Sublist.refl _) ?_)) | (show drawK _ 13 _ _ _ _ _ _; (refine draw_quiet tabOk mixed (by kernel_rfl) ?_)) | (show drawK _ 28 _ _ _ _ _ _; (refine draw_tree tabOk mixed [16] _ (.take 0 (.take 1 (.take 2 (.take 3 (.take 4 (.take 5 (.take 6 (.take 7 (.take 8 (.take 9 (.take 10 (.take 11 (.take 12 (.take 13 (.one 14 (.one 15 (.one 16 (.done)))))))))))))))))) (by kernel_rfl) (by kernel_rfl) (by kernel_rfl) (List.Sublist.refl _) ?_)) | (show drawK _ 30 _ _ _ _ _ _; (refine draw_quiet tabOk mixed (by kernel_rfl) ?_)) | (show drawK _ 31 _ _ _ _ _ _; (refine draw_tree tabOk mixed [] _ (.take 0 (.take 1 (.take 2 (.take 3 (.take 4 (.take 6 (.take 7 (.take 8 (.take 9 (.take 10 (.one 5 (.one 11 (.one 12 (.take 13 (.done))))))))))))))) (by kernel_rfl) (by kernel_rfl) (by kernel_rfl) (List.Sublist.refl _) ?_)) | (show Wp _ _ _ _ _ _ _; (refine Wp.go tabOk rfl ?_)) | (show @cmpK _ _ _; (first | refine cmp_yes (by omega) ?_ | refine cmp_no (by omega) ?_ | (refine cmp_both ?_ ?_ <;> intro _))) | (show wrapK _ _ _; (refine wrap_i64 (by omega) (by omega) ?_)) | (show leK _ _ _; (refine le_of (by first | exact Nat.le_refl _ | omega) ?_)) | (show roomK _ _ _; (refine room_of (by first | omega | (dsimp only; omega)) ?_)) | (show ltK _ _ _; (refine lt_of (by omega) ?_)) | (show _ ∧ _; (refine ⟨?_, ?_⟩)) | (show keepK _ _ _ _ _; (refine keep_of (by first | exact List.Sublist.refl _ | exact List.Sublist.cons _ (List.Sublist.refl _) | exact List.Sublist.cons _ (List.Sublist.cons _ (List.Sublist.refl _)) | exact List.Sublist.cons _ (List.Sublist.cons _ (List.Sublist.cons _ (List.Sublist.refl _)))) (by first | exact (fun _ _ h => h) | exact (fun _ _ h => h.1) | exact (fun _ _ h => h.1.1)) ?_)) | (show ownK _ _ _ _ _; (refine own_keep ?_))))
  all_goals (conv => whnf)
  have hxc := hx.count
  refine Wp.know (p := ∃ a, x.rows.base = some a) (fun ρ w' hw => holds_of_abs hw fun R h => base_some (j := 0) (rowsA_in h.2.1) (by rw [shRows_length]; omega)) ?_
  rintro ⟨xa, hxa⟩
  refine Wp.know (p := ∃ a, x.bias.base = some a) (fun ρ w' hw => holds_of_abs hw fun R h => (hx.biasOk (w := w) (hno.later h.1) h.2).base (by rw [hx.bias]; simp [matBias]; omega)) ?_
  rintro ⟨ba, hba⟩
  have hxr : ∀ (R : Nat → Prop) w', ((baseA w).and ((matD x).past w.heap.size)).holds R w' → RowsI w' (some xa) 1 (shRows x.rows.l) := fun R w' h => by rw [← hxa]; exact rowsA_in h.2.1
  have hxb : ∀ (R : Nat → Prop) w', ((baseA w).and ((matD x).past w.heap.size)).holds R w' → RowsI w' (some ba) 1 (ints x.bias.xs) := fun R w' h => by rw [← hba]; exact (hx.biasOk (w := w) (hno.later h.1) h.2).rows
  refine Wp.loop (σ := Nat × Nat) 4 (fun ⟨o, m⟩ => [(6, .lp 1 0 0 0), (7, .lp 2 0 0 0), (9, .c x.bias.val), (10, .os 3 m), (56, .c x.rows.val), (57, .c (.int .i64 cnt)), (58, .c (.int .i64 o))]) (fun ⟨o, m⟩ => [(3, .rows (ints (linPre n cnt o (termsG n t.xs) a)) 1 3), (2, .box [.c (.int .i64 a.1), .c (.int .i64 a.2)] 67), (1, .box [.c (.int .i64 0), .c (.int .i64 0)] 67)]) (fun _ => (baseA w).and ((matD x).past w.heap.size))
    (fun ⟨o, m⟩ => o ≤ cnt ∧ m = 2 * o) (fun s => cnt - s.1) (0, 0) [(3, none)] (by decide) (fun s => ⟨rfl, rfl⟩) ⟨Nat.zero_le _, rfl⟩ ⟨rfl, ⟨rfl, rfl, rfl, rfl, rfl, ?_, rfl, trivial⟩, ⟨rfl, (by repeat (first | exact List.mem_cons_self | apply List.mem_cons_of_mem)), (by repeat (first | exact List.mem_cons_self | apply List.mem_cons_of_mem)), trivial⟩, fun _ _ h => h⟩ ?_
  · rw [← hxc]; rfl
  rintro ⟨o, m⟩ ⟨ho, hm⟩
  have hml := linPre_len n cnt (termsG n t.xs) a o
  by_cases hlo : o < cnt
  · have hlx : o < x.rows.l.length := by omega
    obtain ⟨_, hu, hbl, hbv⟩ := hx.row hlx
    have hsn := linPre_snoc n cnt o (termsG n t.xs) a
    have hbd := bias_bd nb cnt o
    have hrow := shRows_get hlx
    have hum := List.getElem_mem hlx
    have hul := hrl o hlo
    have hub := hrb o
    have hsu := hsums o hlo
    generalize x.rows.l[o] = u at *
    rw [← hu] at hul hub hsu
    refine Wp.know (p := ∃ a, u.base = some a) (fun ρ w' hw => holds_of_abs hw fun R h => (hx.rowsOk (w := w) (hno.later h.1) h.2 u hum).base (by omega)) ?_
    rintro ⟨ua, hua⟩
    have hur : ∀ (R : Nat → Prop) w', ((baseA w).and ((matD x).past w.heap.size)).holds R w' → RowsI w' (some ua) 1 (ints u.xs) := fun R w' h => by rw [← hua]; exact (hx.rowsOk (w := w) (hno.later h.1) h.2 u hum).rows
    have hul64 : u.xs.length ≤ 64 := by omega
    (repeat' ((conv => whnf) <;> first | (show idxK _ _ _ _ _; (first | refine idx_of xa o hxa rfl hlx ?_ | refine idx_of ba o hba rfl (by omega) ?_)) | (show roK _ _ _; (first | refine ro_row0 hxr _ _ hrow rfl ?_ | refine ro_intv hxb (j := o) (by omega) hbv ?_)) | (show drawK _ 8 _ _ _ _ _ _; (refine draw_quiet tabOk mixed (by kernel_rfl) ?_)) | (show drawK _ 13 _ _ _ _ _ _; (refine draw_quiet tabOk mixed (by kernel_rfl) ?_)) | (show drawK _ 28 _ _ _ _ _ _; (refine draw_tree tabOk mixed [16] _ (.take 0 (.take 1 (.take 2 (.take 3 (.take 4 (.take 5 (.take 6 (.take 7 (.take 8 (.take 9 (.take 10 (.take 11 (.take 12 (.take 13 (.one 14 (.one 15 (.one 16 (.done)))))))))))))))))) (by kernel_rfl) (by kernel_rfl) (by kernel_rfl) (List.Sublist.refl _) ?_)) | (show drawK _ 30 _ _ _ _ _ _; (refine draw_quiet tabOk mixed (by kernel_rfl) ?_)) | (show drawK _ 31 _ _ _ _ _ _; (refine draw_tree tabOk mixed [] _ (.take 0 (.take 1 (.take 2 (.take 3 (.take 4 (.take 6 (.take 7 (.take 8 (.take 9 (.take 10 (.one 5 (.one 11 (.one 12 (.take 13 (.done))))))))))))))) (by kernel_rfl) (by kernel_rfl) (by kernel_rfl) (List.Sublist.refl _) ?_)) | (show Wp _ _ _ _ _ _ _; (refine Wp.go tabOk rfl ?_)) | (show @cmpK _ _ _; (first | refine cmp_yes (by omega) ?_ | refine cmp_no (by omega) ?_ | (refine cmp_both ?_ ?_ <;> intro _))) | (show wrapK _ _ _; (refine wrap_i64 (by omega) (by omega) ?_)) | (show leK _ _ _; (refine le_of (by first | exact Nat.le_refl _ | omega) ?_)) | (show roomK _ _ _; (refine room_of (by first | omega | (dsimp only; omega)) ?_)) | (show ltK _ _ _; (refine lt_of (by omega) ?_)) | (show _ ∧ _; (refine ⟨?_, ?_⟩)) | (show keepK _ _ _ _ _; (refine keep_of (by first | exact List.Sublist.refl _ | exact List.Sublist.cons _ (List.Sublist.refl _) | exact List.Sublist.cons _ (List.Sublist.cons _ (List.Sublist.refl _)) | exact List.Sublist.cons _ (List.Sublist.cons _ (List.Sublist.cons _ (List.Sublist.refl _)))) (by first | exact (fun _ _ h => h) | exact (fun _ _ h => h.1) | exact (fun _ _ h => h.1.1)) ?_)) | (show ownK _ _ _ _ _; (refine own_keep ?_))))
    all_goals (conv => whnf)
    refine Wp.loop (σ := Nat × Int × Int) 4 (fun ⟨j, lo, hi⟩ => [(6, .lp 1 0 0 0), (7, .lp 2 0 0 0), (9, .c x.bias.val), (10, .os 3 m), (56, .c x.rows.val), (57, .c (.int .i64 cnt)), (58, .c (.int .i64 o)), (13, .c (.int .i64 lo)), (14, .c (.int .i64 hi)), (71, .c u.val), (72, .c (.int .i64 u.xs.length)), (73, .c (.int .i64 j))]) (fun _ => [(3, .rows (ints (linPre n cnt o (termsG n t.xs) a)) 1 3), (2, .box [.c (.int .i64 a.1), .c (.int .i64 a.2)] 67), (1, .box [.c (.int .i64 0), .c (.int .i64 0)] 67)]) (fun _ => (baseA w).and ((matD x).past w.heap.size))
      (fun ⟨j, lo, hi⟩ => j ≤ u.xs.length ∧ lo = biasI n cnt o + sumG (gLo a) 0 (u.xs.take j) ∧ hi = biasI n cnt o + sumG (gHi a) 0 (u.xs.take j)) (fun s => u.xs.length - s.1) (0, biasI n cnt o, biasI n cnt o) [] (by decide) (fun s => ⟨rfl, rfl⟩) ⟨Nat.zero_le _, by simp [sumG], by simp [sumG]⟩ ⟨rfl, ⟨rfl, rfl, rfl, rfl, rfl, rfl, rfl, rfl, rfl, rfl, rfl, rfl, trivial⟩, ⟨(by repeat (first | exact List.mem_cons_self | apply List.mem_cons_of_mem)), (by repeat (first | exact List.mem_cons_self | apply List.mem_cons_of_mem)), (by repeat (first | exact List.mem_cons_self | apply List.mem_cons_of_mem)), trivial⟩, fun _ _ h => h⟩ ?_
    rintro ⟨j, lo, hi⟩ ⟨hj, hlv, hhv⟩
    by_cases hjl : j < u.xs.length
    · have s1 := sumG_snoc (gLo a) hjl
      have s2 := sumG_snoc (gHi a) hjl
      have hG1 : ∀ k v, v ∈ u.xs → -1099511627776 ≤ gLo a k v ∧ gLo a k v ≤ 1099511627776 := fun k v hv => by
        have q1 := mul_bd (A := 1048576) (B := 1048576) (hub v hv) ha1
        have q2 := mul_bd (A := 1048576) (B := 1048576) (hub v hv) hah
        unfold gLo; omega
      have hG2 : ∀ k v, v ∈ u.xs → -1099511627776 ≤ gHi a k v ∧ gHi a k v ≤ 1099511627776 := fun k v hv => by
        have q1 := mul_bd (A := 1048576) (B := 1048576) (hub v hv) ha1
        have q2 := mul_bd (A := 1048576) (B := 1048576) (hub v hv) hah
        unfold gHi; omega
      have b1 := sumG_bd40 (gLo a) (l := u.xs) (j := j) (by omega) hG1
      have b2 := sumG_bd40 (gHi a) (l := u.xs) (j := j) (by omega) hG2
      have hv : bd20 (u.xs.getD j 0) := getD_bd hub j
      have q1 := mul_bd (A := 1048576) (B := 1048576) hv ha1
      have q2 := mul_bd (A := 1048576) (B := 1048576) hv hah
      have e1 : gLo a j (u.xs.getD j 0) = min (u.xs.getD j 0 * a.1) (u.xs.getD j 0 * a.2) := rfl
      have e2 : gHi a j (u.xs.getD j 0) = max (u.xs.getD j 0 * a.1) (u.xs.getD j 0 * a.2) := rfl
      clear hG1 hG2 hsu hrl hsums hsn
      unfold bd20 at hbd
      (repeat' ((conv => whnf) <;> first | (show idxK _ _ _ _ _; (refine idx_of ua j hua rfl hjl ?_)) | (show roK _ _ _; (refine ro_int hur (j := j) hjl ?_)) | (show drawK _ 8 _ _ _ _ _ _; (refine draw_quiet tabOk mixed (by kernel_rfl) ?_)) | (show drawK _ 13 _ _ _ _ _ _; (refine draw_quiet tabOk mixed (by kernel_rfl) ?_)) | (show drawK _ 28 _ _ _ _ _ _; (refine draw_tree tabOk mixed [16] _ (.take 0 (.take 1 (.take 2 (.take 3 (.take 4 (.take 5 (.take 6 (.take 7 (.take 8 (.take 9 (.take 10 (.take 11 (.take 12 (.take 13 (.one 14 (.one 15 (.one 16 (.done)))))))))))))))))) (by kernel_rfl) (by kernel_rfl) (by kernel_rfl) (List.Sublist.refl _) ?_)) | (show drawK _ 30 _ _ _ _ _ _; (refine draw_quiet tabOk mixed (by kernel_rfl) ?_)) | (show drawK _ 31 _ _ _ _ _ _; (refine draw_tree tabOk mixed [] _ (.take 0 (.take 1 (.take 2 (.take 3 (.take 4 (.take 6 (.take 7 (.take 8 (.take 9 (.take 10 (.one 5 (.one 11 (.one 12 (.take 13 (.done))))))))))))))) (by kernel_rfl) (by kernel_rfl) (by kernel_rfl) (List.Sublist.refl _) ?_)) | (show Wp _ _ _ _ _ _ _; (refine Wp.go tabOk rfl ?_)) | (show @cmpK _ _ _; (first | refine cmp_yes (by omega) ?_ | refine cmp_no (by omega) ?_ | (refine cmp_both ?_ ?_ <;> intro _))) | (show wrapK _ _ _; (refine wrap_i64 (by omega) (by omega) ?_)) | (show leK _ _ _; (refine le_of (by first | exact Nat.le_refl _ | omega) ?_)) | (show roomK _ _ _; (refine room_of (by first | omega | (dsimp only; omega)) ?_)) | (show ltK _ _ _; (refine lt_of (by omega) ?_)) | (show _ ∧ _; (refine ⟨?_, ?_⟩)) | (show keepK _ _ _ _ _; (refine keep_of (by first | exact List.Sublist.refl _ | exact List.Sublist.cons _ (List.Sublist.refl _) | exact List.Sublist.cons _ (List.Sublist.cons _ (List.Sublist.refl _)) | exact List.Sublist.cons _ (List.Sublist.cons _ (List.Sublist.cons _ (List.Sublist.refl _)))) (by first | exact (fun _ _ h => h) | exact (fun _ _ h => h.1) | exact (fun _ _ h => h.1.1)) ?_)) | (show ownK _ _ _ _ _; (refine own_keep ?_))))
      all_goals (conv => whnf)
      all_goals exact ⟨(j + 1, _, _), [], ⟨hjl, by rw [s1]; omega, by rw [s2]; omega⟩, by simp only; omega, rfl, ⟨rfl, rfl, rfl, rfl, rfl, rfl, rfl, rfl, rfl, rfl, rfl, rfl, trivial⟩, ⟨(by repeat (first | exact List.mem_cons_self | apply List.mem_cons_of_mem)), (by repeat (first | exact List.mem_cons_self | apply List.mem_cons_of_mem)), (by repeat (first | exact List.mem_cons_self | apply List.mem_cons_of_mem)), trivial⟩, fun _ _ h => h⟩
    · have hjz : j = u.xs.length := Nat.le_antisymm hj (Nat.not_lt.1 hjl)
      subst hjz
      rw [List.take_of_length_le (Nat.le_refl _), hsu _ (gLo_zero a), ← foldl_lo] at hlv
      rw [List.take_of_length_le (Nat.le_refl _), hsu _ (gHi_zero a), ← foldl_hi] at hhv
      (repeat' ((conv => whnf) <;> first | (show leK _ _ _; (refine le_of (by rw [ints_length, hml, hm]; exact Nat.le_refl _) ?_)) | (show roomK _ _ _; (refine room_of (by show (m + 2) * 8 ≤ 140737488355328; omega) ?_)) | (show drawK _ 8 _ _ _ _ _ _; (refine draw_quiet tabOk mixed (by kernel_rfl) ?_)) | (show drawK _ 13 _ _ _ _ _ _; (refine draw_quiet tabOk mixed (by kernel_rfl) ?_)) | (show drawK _ 28 _ _ _ _ _ _; (refine draw_tree tabOk mixed [16] _ (.take 0 (.take 1 (.take 2 (.take 3 (.take 4 (.take 5 (.take 6 (.take 7 (.take 8 (.take 9 (.take 10 (.take 11 (.take 12 (.take 13 (.one 14 (.one 15 (.one 16 (.done)))))))))))))))))) (by kernel_rfl) (by kernel_rfl) (by kernel_rfl) (List.Sublist.refl _) ?_)) | (show drawK _ 30 _ _ _ _ _ _; (refine draw_quiet tabOk mixed (by kernel_rfl) ?_)) | (show drawK _ 31 _ _ _ _ _ _; (refine draw_tree tabOk mixed [] _ (.take 0 (.take 1 (.take 2 (.take 3 (.take 4 (.take 6 (.take 7 (.take 8 (.take 9 (.take 10 (.one 5 (.one 11 (.one 12 (.take 13 (.done))))))))))))))) (by kernel_rfl) (by kernel_rfl) (by kernel_rfl) (List.Sublist.refl _) ?_)) | (show Wp _ _ _ _ _ _ _; (refine Wp.go tabOk rfl ?_)) | (show @cmpK _ _ _; (first | refine cmp_yes (by omega) ?_ | refine cmp_no (by omega) ?_ | (refine cmp_both ?_ ?_ <;> intro _))) | (show wrapK _ _ _; (refine wrap_i64 (by omega) (by omega) ?_)) | (show leK _ _ _; (refine le_of (by first | exact Nat.le_refl _ | omega) ?_)) | (show roomK _ _ _; (refine room_of (by first | omega | (dsimp only; omega)) ?_)) | (show ltK _ _ _; (refine lt_of (by omega) ?_)) | (show _ ∧ _; (refine ⟨?_, ?_⟩)) | (show keepK _ _ _ _ _; (refine keep_of (by first | exact List.Sublist.refl _ | exact List.Sublist.cons _ (List.Sublist.refl _) | exact List.Sublist.cons _ (List.Sublist.cons _ (List.Sublist.refl _)) | exact List.Sublist.cons _ (List.Sublist.cons _ (List.Sublist.cons _ (List.Sublist.refl _)))) (by first | exact (fun _ _ h => h) | exact (fun _ _ h => h.1) | exact (fun _ _ h => h.1.1)) ?_)) | (show ownK _ _ _ _ _; (refine own_keep ?_))))
      all_goals (conv => whnf)
      exact ⟨(o + 1, m + 2), [(3, some 5)], ⟨hlo, by omega⟩, by simp only; omega, rfl, ⟨rfl, rfl, rfl, rfl, rfl, rfl, rfl, trivial⟩, ⟨by
        show (5, Ent.rows (ints (linPre n cnt (o + 1) (termsG n t.xs) a)) 1 3) ∈ _
        rw [hsn, ← hlv, ← hhv]; exact ints_two _ _ _ (by rw [hml, hm]), (by repeat (first | exact List.mem_cons_self | apply List.mem_cons_of_mem)), (by repeat (first | exact List.mem_cons_self | apply List.mem_cons_of_mem)), trivial⟩, fun _ _ h => h⟩
  · have hoz : o = cnt := Nat.le_antisymm ho (Nat.not_lt.1 hlo)
    subst hoz
    have hfit : ∀ x ∈ linPre n o o (termsG n t.xs) a, i64 x := fun x hx => by
      obtain ⟨q, hq, hx⟩ := List.mem_flatMap.1 hx
      rw [List.mem_range] at hq
      have g := lin_bd ⟨ha1, hah⟩ (l := termsG n t.xs q) (s := biasI n o q) (hTbf.2 q hq)
      have gf := hTbf.1 q hq
      have gb := bias_bd nb o q
      unfold bd20 at gb
      simp only [List.mem_cons, List.not_mem_nil, or_false] at hx
      unfold i64
      rcases hx with rfl | rfl <;> omega
    have hmL : m = (linPre n o o (termsG n t.xs) a).length := by omega
    subst hmL
    refine Wp.freezeN 3 w.heap.size (k := 1) (xs := ints (linPre n o o (termsG n t.xs) a)) (T := 3) (by repeat (first | exact List.mem_cons_self | apply List.mem_cons_of_mem)) (fun R w' h b hb => (h.1 b hb).1) (fun l1 hl1 => ?_)
    rw [ints_length] at hl1
    (repeat' ((conv => whnf) <;> first | (show callK _ 110 _ _ _ _ _; (refine call_pure (f := 110) Try.call110 (spanV (spanE (linPre n o o (termsG n t.xs) a))) (fun ρ w' hw => cover_any w' ⟨l1.base, l1.cap, linPre n o o (termsG n t.xs) a⟩ (holds_of_abs hw fun R h => ⟨rowsA_in h.2, hfit, hl1, by simp only; omega⟩) (by simp only; omega)) ?_)) | (show drawK _ 8 _ _ _ _ _ _; (refine draw_quiet tabOk mixed (by kernel_rfl) ?_)) | (show drawK _ 13 _ _ _ _ _ _; (refine draw_quiet tabOk mixed (by kernel_rfl) ?_)) | (show drawK _ 28 _ _ _ _ _ _; (refine draw_tree tabOk mixed [16] _ (.take 0 (.take 1 (.take 2 (.take 3 (.take 4 (.take 5 (.take 6 (.take 7 (.take 8 (.take 9 (.take 10 (.take 11 (.take 12 (.take 13 (.one 14 (.one 15 (.one 16 (.done)))))))))))))))))) (by kernel_rfl) (by kernel_rfl) (by kernel_rfl) (List.Sublist.refl _) ?_)) | (show drawK _ 30 _ _ _ _ _ _; (refine draw_quiet tabOk mixed (by kernel_rfl) ?_)) | (show drawK _ 31 _ _ _ _ _ _; (refine draw_tree tabOk mixed [] _ (.take 0 (.take 1 (.take 2 (.take 3 (.take 4 (.take 6 (.take 7 (.take 8 (.take 9 (.take 10 (.one 5 (.one 11 (.one 12 (.take 13 (.done))))))))))))))) (by kernel_rfl) (by kernel_rfl) (by kernel_rfl) (List.Sublist.refl _) ?_)) | (show Wp _ _ _ _ _ _ _; (refine Wp.go tabOk rfl ?_)) | (show @cmpK _ _ _; (first | refine cmp_yes (by omega) ?_ | refine cmp_no (by omega) ?_ | (refine cmp_both ?_ ?_ <;> intro _))) | (show wrapK _ _ _; (refine wrap_i64 (by omega) (by omega) ?_)) | (show leK _ _ _; (refine le_of (by first | exact Nat.le_refl _ | omega) ?_)) | (show roomK _ _ _; (refine room_of (by first | omega | (dsimp only; omega)) ?_)) | (show ltK _ _ _; (refine lt_of (by omega) ?_)) | (show _ ∧ _; (refine ⟨?_, ?_⟩)) | (show keepK _ _ _ _ _; (refine keep_of (by first | exact List.Sublist.refl _ | exact List.Sublist.cons _ (List.Sublist.refl _) | exact List.Sublist.cons _ (List.Sublist.cons _ (List.Sublist.refl _)) | exact List.Sublist.cons _ (List.Sublist.cons _ (List.Sublist.cons _ (List.Sublist.refl _)))) (by first | exact (fun _ _ h => h) | exact (fun _ _ h => h.1) | exact (fun _ _ h => h.1.1)) ?_)) | (show ownK _ _ _ _ _; (refine own_keep ?_))))
    all_goals (conv => whnf)
    all_goals exact ends_of (fun _ _ h => h.1.1) (fun _ => rfl) rfl
end Go.Proofs.Ytajbngkcgbehlaa
/- IH -/
namespace Go.Proofs.Ytajbngkcgbehlaa
open Go.SX Go.RowKit
def RunPost (w : World) (r : Int × List Int) (e : Ending) (w' : World) : Prop :=
  (r.1 ≠ 0 ∧ e = .returned (.tuple #[.slice none 0 0, .int .i64 r.1]) ∧ Ext w w') ∨ (r.1 = 0 ∧ ∃ x : IntsV, (x.xs = r.2 ∧ x.sane) ∧ e = .returned (.tuple #[x.val, .int .i64 0]) ∧ Ext w w' ∧ (intsA x).holds (fun b => w.heap.size ≤ b ∧ b < w'.heap.size) w')
theorem run_bad {B : Base} {v : SV} {H : Heap} {S : Asn} {nx : Nat} {w : World} {r : Int × List Int} (hb : ∀ R w', S.holds R w' → (baseA B.w0).holds R w') (hw0 : B.w0 = w) (hn : r.1 ≠ 0) (hv : ∀ ρ, v.rf ρ = .tuple #[.slice none 0 0, .int .i64 r.1]) : finK B v H S nx (RunPost w r) := by
  subst hw0
  exact fin_of fun ρ w' hw => .inl ⟨hn, by rw [hv], ext_of_abs hw hb⟩
theorem run_good {B : Base} {x : IntsV} {H : Heap} {S : Asn} {nx : Nat} {w : World} {r : Int × List Int} (hb : ∀ R w', S.holds R w' → (baseA B.w0).holds R w') (hw0 : B.w0 = w) (hs : x.sane) (hr : r = (0, x.xs)) (hD : ∀ R w', S.holds R w' → ((intsA x).past B.w0.heap.size).holds R w') : finK B (.tup [.c x.val, .c (.int .i64 0)]) H S nx (RunPost w r) := by
  subst hw0 hr
  exact fin_of fun ρ w' hw => .inr ⟨rfl, x, ⟨rfl, hs⟩, rfl, ext_of_abs hw hb, past_new hw hD⟩
theorem run_bad12 {B : Base} {v : SV} {H : Heap} {S : Asn} {nx : Nat} {w : World} {r' : Int × List (List Int)} {X : Int × List Int} (hb : ∀ R w', S.holds R w' → (baseA B.w0).holds R w') (hw0 : B.w0 = w) (hr : r' = (12, [])) (hv : ∀ ρ, v.rf ρ = .tuple #[.slice none 0 0, .int .i64 12]) : finK B v H S nx (RunPost w (if r'.1 ≠ 0 then (r'.1, []) else X)) := by
  subst hr
  have e : (if ((12 : Int), ([] : List (List Int))).1 ≠ 0 then (((12 : Int), ([] : List (List Int))).1, ([] : List Int)) else X) = (12, []) := if_pos (show (12 : Int) ≠ 0 by decide)
  rw [e]
  exact run_bad hb hw0 (show (12 : Int) ≠ 0 by decide) hv
theorem run_good0 {B : Base} {x : IntsV} {H : Heap} {S : Asn} {nx : Nat} {w : World} {r' : Int × List (List Int)} {k : Nat} {L : List (List Int)} (hb : ∀ R w', S.holds R w' → (baseA B.w0).holds R w') (hw0 : B.w0 = w) (hs : x.sane) (hr : r' = (0, L)) (hx : L.getD k [] = x.xs) (hD : ∀ R w', S.holds R w' → ((intsA x).past B.w0.heap.size).holds R w') : finK B (.tup [.c x.val, .c (.int .i64 0)]) H S nx (RunPost w (if r'.1 ≠ 0 then (r'.1, []) else (0, r'.2.getD k []))) := by
  subst hr
  have e : (if ((0 : Int), L).1 ≠ 0 then (((0 : Int), L).1, ([] : List Int)) else (0, ((0 : Int), L).2.getD k [])) = (0, L.getD k []) := if_neg (show ¬ (0 : Int) ≠ 0 by decide)
  rw [e, hx]
  exact run_good hb hw0 hs rfl hD
/-- a call of Spans -/
theorem call_spans {cx : Cx} {f : FuncId} {args : List SV} {H : Heap} {S : Asn} {nx : Nat} {K : SV → Heap → Asn → Nat → Prop} (r : Int × List Sp) (hf : ∀ ar w, (callFunc f ar).run cx.P w = .ok (.enter f ar) w)
    (hc : ∀ ρ w', Abs cx.B ρ nx H S w' → Calls cx.P f (SV.rfs ρ args).toArray w' (SpansPost w' r))
    (h0 : r.1 ≠ 0 → K (.c (.tuple #[.slice none 0 0, .int .i64 r.1])) H S nx)
    (h1 : r.1 = 0 → ∀ base cap, K (.c (.tuple #[.slice base r.2.length cap, .int .i64 0])) H (S.and ((rowsA base 2 (spRows r.2)).past cx.B.w0.heap.size)) nx) : callK cx f args H S nx K := by
  rw [callK_def]
  refine ⟨hf, fun ρ w hw => (hc ρ w hw).mono ?_⟩
  rintro e w' (⟨hr, rfl, he⟩ | ⟨hr, v, rfl, he, hn⟩)
  · exact ⟨.c (.tuple #[.slice none 0 0, .int .i64 r.1]), ρ, H, S, nx, rfl, fun _ _ => rfl, Nat.le_refl _, SV.lt_c _, hw.ext he, h0 hr⟩
  · obtain ⟨base, cap, e1, hD⟩ := newRows_data hn
    rw [spRows_length] at e1
    subst e1
    exact ⟨.c (.tuple #[.slice base r.2.length cap, .int .i64 0]), ρ, H, _, nx, rfl, fun _ _ => rfl, Nat.le_refl _, SV.lt_c _, hw.grow he hD, h1 hr base cap⟩
theorem getD_kn {N : Nat} {l : List IntsV} {R : Nat → Prop} {w : World} (hs : ∀ u ∈ l, u.sane) (h : (eachA N l).holds R w) (k : Nat) : (l.getD k nilI).ok w := by
  rcases Nat.lt_or_ge k l.length with hk | hk
  · rw [List.getD_eq_getElem?_getD, List.getElem?_eq_getElem hk]
    exact intsA_ok (hs _ (List.getElem_mem hk)) ((intsA _).mono (h _ (List.getElem_mem hk)) (fun b hb => hb.1))
  · rw [List.getD_eq_getElem?_getD, List.getElem?_eq_none hk]
    exact intsA_ok nilI_sane (nilI_holds R w)
theorem getD_xs (l : List IntsV) (k : Nat) : (l.getD k nilI).xs = (l.map IntsV.xs).getD k [] := by
  rcases Nat.lt_or_ge k l.length with hk | hk
  · simp [List.getD_eq_getElem?_getD, hk]
  · simp [List.getD_eq_getElem?_getD, hk, nilI]
end Go.Proofs.Ytajbngkcgbehlaa
/- II -/
namespace Go.Proofs.Ytajbngkcgbehlaa
open Go.SX Go.RowKit
/-! a graph of an input and a quadratic -/
def inN (u : IntsV) (lo hi : Int) : NodeV := ⟨1, 0, 0, u, lo, hi, 0, nilI, nilI⟩
def powN (v : IntsV) : NodeV := ⟨8, 0, 0, nilI, 0, 0, 0, v, nilI⟩
def g2 (nb : Option Addr) (nc : Nat) (u v : IntsV) (lo hi : Int) : GraphV := ⟨nb, nc, [inN u lo hi, powN v], 1⟩
theorem ent1 : entries [1] = 1 := by unfold entries; decide
theorem bd_near {l : List Int} (h : ∀ x ∈ l, bd20 x) : nearL l = true := List.all_eq_true.2 fun x hx => by have := h x hx; unfold bd20 at this; simpa using this
theorem check_g2 {nb : Option Addr} {nc : Nat} {u v : IntsV} {lo hi : Int} (hu : u.xs = [1]) (hv : v.xs.length = 3) (hb : ∀ x ∈ v.xs, bd20 x) (hlo : bd20 lo) (hhi : bd20 hi) (hle : lo ≤ hi) : check (g2 nb nc u v lo hi) = (0, [[1], [1]]) := by
  have f1 : formB (inN u lo hi) (([] : List (List Int)).length : Nat) = true := by
    unfold formB inN
    rw [if_pos rfl]
    unfold lacksB
    simp [hu, ent1, nilI]
  have s1 : shapeO (inN u lo hi) [] = some [1] := by
    unfold shapeO inN
    rw [if_pos (.inl rfl)]
    simp [hu]
  have n1 : nearB (inN u lo hi) = true := by
    unfold nearB inN
    rw [show nearL nilI.xs = true from rfl, bd_near (l := [lo, hi]) (by intro x hx; simp at hx; rcases hx with rfl | rfl <;> assumption)]
    simp [hle]
  have f2 : formB (powN v) (([] ++ [[1]] : List (List Int)).length : Nat) = true := by
    unfold formB powN
    repeat (first | rw [if_pos rfl] | rw [if_neg (by decide)])
    unfold lacksB aheadB
    simp [hv, nilI]
  have s2 : shapeO (powN v) ([] ++ [[1]]) = some [1] := by
    unfold shapeO powN
    repeat (first | rw [if_pos rfl] | rw [if_neg (by decide)])
    rfl
  have n2 : nearB (powN v) = true := by
    unfold nearB powN
    rw [bd_near hb, show nearL nilI.xs = true from rfl]
    rfl
  unfold check g2
  rw [if_neg (by simp)]
  rw [checkR_next f1 s1 n1, checkR_next f2 s2 n2]
  rfl
theorem spansR_step {n : NodeV} {r : List NodeV} {acc : List Sp} {L : List Int} (h : endsL n (acc.getD n.a.toNat (0, 0)) (acc.getD n.b.toNat (0, 0)) = L) : spansR (n :: r) acc = if foldI min L < -1048576 ∨ 1048576 < foldI max L then (5, []) else spansR r (acc ++ [(foldI min L, foldI max L)]) := by
  subst h; rfl
theorem spans_g2 {nb : Option Addr} {nc : Nat} {u v : IntsV} {lo hi : Int} (hc : check (g2 nb nc u v lo hi) = (0, [[1], [1]])) (hlo : bd20 lo) (hhi : bd20 hi) (hle : lo ≤ hi) :
    spansG (g2 nb nc u v lo hi) = if foldI min (powEnds v.xs (lo, hi)) < -1048576 ∨ 1048576 < foldI max (powEnds v.xs (lo, hi)) then (5, []) else (0, [(lo, hi), (foldI min (powEnds v.xs (lo, hi)), foldI max (powEnds v.xs (lo, hi)))]) := by
  have m1 : foldI min [lo, hi] = lo := by show min lo hi = lo; omega
  have m2 : foldI max [lo, hi] = hi := by show max lo hi = hi; omega
  have e1 : endsL (inN u lo hi) (([] : List Sp).getD 0 (0, 0)) (([] : List Sp).getD 0 (0, 0)) = [lo, hi] := if_pos rfl
  have e2 : endsL (powN v) (([] ++ [(lo, hi)] : List Sp).getD 0 (0, 0)) (([] ++ [(lo, hi)] : List Sp).getD 0 (0, 0)) = powEnds v.xs (lo, hi) := by
    unfold endsL powN
    repeat (first | rw [if_pos rfl] | rw [if_neg (by decide)])
    rfl
  unfold spansG
  rw [hc, if_neg (by simp)]
  unfold bd20 at hlo hhi
  show spansR [inN u lo hi, powN v] [] = _
  rw [spansR_step (n := inN u lo hi) (acc := []) e1, m1, m2, if_neg (by omega), spansR_step (n := powN v) (acc := [] ++ [(lo, hi)]) e2]
  rfl
theorem g2_nlin {nb : Option Addr} {nc : Nat} {u v : IntsV} {lo hi : Int} : ∀ n ∈ (g2 nb nc u v lo hi).l, nlin n := fun n hn => by
  simp only [g2, List.mem_cons, List.not_mem_nil, or_false] at hn
  rcases hn with rfl | rfl
  · exact ⟨(show (1 : Int) ≠ 3 by decide), (show (1 : Int) ≠ 4 by decide), (show (1 : Int) ≠ 5 by decide)⟩
  · exact ⟨(show (8 : Int) ≠ 3 by decide), (show (8 : Int) ≠ 4 by decide), (show (8 : Int) ≠ 5 by decide)⟩
theorem g2_ok {w : World} {nb : Option Addr} {nc : Nat} {u v : IntsV} {lo hi : Int} (hr : RowsI w nb 9 (nodeRows [inN u lo hi, powN v])) (hu : u.ok w) (hv : v.ok w) (hul : u.xs.length ≤ 5000) (hvl : v.xs.length ≤ 5000) (hlo : bd20 lo) (hhi : bd20 hi) : (g2 nb nc u v lo hi).ok w := by
  have hn : nilI.ok w := intsA_ok nilI_sane (nilI_holds (fun _ => True) w)
  unfold bd20 at hlo hhi
  refine ⟨hr, fun n hnm => ?_, fun n hnm => ?_, by show 2 ≤ 1000000; decide, (by show i64 1; exact z1)⟩
  · simp only [g2, List.mem_cons, List.not_mem_nil, or_false] at hnm
    rcases hnm with rfl | rfl
    · exact ⟨hu, hn, hn, z1, z0, z0, ⟨by show _ ≤ lo; omega, by show lo ≤ _; omega⟩, ⟨by show _ ≤ hi; omega, by show hi ≤ _; omega⟩, z0⟩
    · exact ⟨hn, hv, hn, (show i64 8 from ⟨by decide, by decide⟩), z0, z0, z0, z0, z0⟩
  · simp only [g2, List.mem_cons, List.not_mem_nil, or_false] at hnm
    rcases hnm with rfl | rfl
    · exact ⟨by simp [inN, nilI], by simp [inN, nilI]⟩
    · exact ⟨hvl, by simp [powN, nilI]⟩
/-! Most -/
def mostStep (m : Int) (s : Sp) : Int := max (max (max (max m s.1) (0 - s.1)) s.2) (0 - s.2)
def mostL (l : List Sp) : Int := l.foldl mostStep 0
theorem mostL_snoc {l : List Sp} {k : Nat} (h : k < l.length) : mostL (l.take (k + 1)) = mostStep (mostL (l.take k)) l[k] := by
  unfold mostL; rw [List.take_succ_eq_append_getElem h, List.foldl_append]; rfl
theorem mostL_bd : ∀ {l : List Sp} {m : Int}, 0 ≤ m → m ≤ 1048576 → (∀ s ∈ l, bd20 s.1 ∧ bd20 s.2) → 0 ≤ l.foldl mostStep m ∧ l.foldl mostStep m ≤ 1048576
  | [], m, h0, h1, _ => ⟨h0, h1⟩
  | s :: r, m, h0, h1, h => by
    have hs := h s List.mem_cons_self
    unfold bd20 at hs
    exact mostL_bd (l := r) (m := mostStep m s) (by unfold mostStep; omega) (by unfold mostStep; omega) (fun x hx => h x (List.mem_cons_of_mem _ hx))
theorem wrap_mone {z y : Int} {K : Int → Prop} (h : z = y) (h1 : -9223372036854775808 ≤ y) (h2 : y ≤ 9223372036854775807) (hk : K y) : wrapK .i64 z K := by
  subst h; exact wrap_i64 h1 h2 hk
set_option maxRecDepth 20000 in
theorem most_any (w : World) (base : Option Addr) (cap : Nat) (l : List Sp) (hr : RowsI w base 2 (spRows l)) (hb : ∀ s ∈ l, bd20 s.1 ∧ bd20 s.2) (hlen : l.length ≤ 9223372036854775807) : Calls Try.prog 41 #[.slice base l.length cap] w fun e w' => e = .returned (.int .i64 (mostL l)) ∧ Ext w w' := by
  refine calls_of tab tabOk Try.func41 rfl rfl rfl [] (fun _ => ⟨none, 0⟩) [.c (.slice base l.length cap)] [] (baseA w) 0 rfl rfl (by show 1 ≤ _; decide) (abs_base w) ?_
  (repeat' ((conv => whnf) <;> first | (show Wp _ _ _ _ _ _ _; (refine Wp.go tabOk rfl ?_)) | (show @cmpK _ _ _; (first | refine cmp_yes (by omega) ?_ | refine cmp_no (by omega) ?_ | (refine cmp_both ?_ ?_ <;> intro _))) | (show wrapK _ _ _; (refine wrap_i64 (by omega) (by omega) ?_)) | (show leK _ _ _; (refine le_of (by first | exact Nat.le_refl _ | omega) ?_)) | (show roomK _ _ _; (refine room_of (by first | omega | (dsimp only; omega)) ?_)) | (show ltK _ _ _; (refine lt_of (by omega) ?_)) | (show _ ∧ _; (refine ⟨?_, ?_⟩)) | (show keepK _ _ _ _ _; (refine keep_of (by first | exact List.Sublist.refl _ | exact List.Sublist.cons _ (List.Sublist.refl _) | exact List.Sublist.cons _ (List.Sublist.cons _ (List.Sublist.refl _)) | exact List.Sublist.cons _ (List.Sublist.cons _ (List.Sublist.cons _ (List.Sublist.refl _)))) (by first | exact (fun _ _ h => h) | exact (fun _ _ h => h.1) | exact (fun _ _ h => h.1.1)) ?_)) | (show ownK _ _ _ _ _; (refine own_keep ?_))))
  refine Wp.loop (σ := Nat × Int) 0 (fun ⟨k, m⟩ => [(3, .c (.int .i64 m)), (6, .c (.slice base l.length cap)), (7, .c (.int .i64 l.length)), (8, .c (.int .i64 k))]) (fun _ => []) (fun _ => baseA w)
    (fun ⟨k, m⟩ => k ≤ l.length ∧ m = mostL (l.take k)) (fun s => l.length - s.1) (0, 0) [] (by decide) (fun s => ⟨rfl, rfl⟩) ⟨Nat.zero_le _, rfl⟩ ⟨rfl, ⟨rfl, rfl, rfl, rfl, trivial⟩, trivial, fun _ _ h => h⟩ ?_
  rintro ⟨k, m⟩ ⟨hk, hm⟩
  by_cases hlt : k < l.length
  · obtain ⟨a, ha⟩ : ∃ a, base = some a := base_some (j := k) hr (by rw [spRows_length]; exact hlt)
    have hrow := spRows_get hlt
    have hsn := mostL_snoc hlt
    have hbk := hb _ (List.getElem_mem hlt)
    generalize l[k] = s at *
    unfold bd20 at hbk
    (repeat' ((conv => whnf) <;> first | (show idxK _ _ _ _ _; (refine idx_of a k ha rfl hlt ?_)) | (show roAggK _ _ _ _; (refine roAgg_row (fun R w' h => by rw [← ha]; exact rows_base h hr) _ hrow rfl ?_)) | (show Wp _ _ _ _ _ _ _; (refine Wp.go tabOk rfl ?_)) | (show @cmpK _ _ _; (first | refine cmp_yes (by omega) ?_ | refine cmp_no (by omega) ?_ | (refine cmp_both ?_ ?_ <;> intro _))) | (show wrapK _ _ _; (refine wrap_i64 (by omega) (by omega) ?_)) | (show leK _ _ _; (refine le_of (by first | exact Nat.le_refl _ | omega) ?_)) | (show roomK _ _ _; (refine room_of (by first | omega | (dsimp only; omega)) ?_)) | (show ltK _ _ _; (refine lt_of (by omega) ?_)) | (show _ ∧ _; (refine ⟨?_, ?_⟩)) | (show keepK _ _ _ _ _; (refine keep_of (by first | exact List.Sublist.refl _ | exact List.Sublist.cons _ (List.Sublist.refl _) | exact List.Sublist.cons _ (List.Sublist.cons _ (List.Sublist.refl _)) | exact List.Sublist.cons _ (List.Sublist.cons _ (List.Sublist.cons _ (List.Sublist.refl _)))) (by first | exact (fun _ _ h => h) | exact (fun _ _ h => h.1) | exact (fun _ _ h => h.1.1)) ?_)) | (show ownK _ _ _ _ _; (refine own_keep ?_))))
    all_goals (conv => whnf)
    all_goals exact ⟨(k + 1, _), [], ⟨hlt, by rw [hsn, ← hm]; unfold mostStep; omega⟩, by simp only; omega, rfl, ⟨rfl, rfl, rfl, rfl, trivial⟩, trivial, fun _ _ h => h⟩
  · obtain rfl : k = l.length := by omega
    rw [List.take_of_length_le (Nat.le_refl _)] at hm
    (repeat' ((conv => whnf) <;> first | (show Wp _ _ _ _ _ _ _; (refine Wp.go tabOk rfl ?_)) | (show @cmpK _ _ _; (first | refine cmp_yes (by omega) ?_ | refine cmp_no (by omega) ?_ | (refine cmp_both ?_ ?_ <;> intro _))) | (show wrapK _ _ _; (refine wrap_i64 (by omega) (by omega) ?_)) | (show leK _ _ _; (refine le_of (by first | exact Nat.le_refl _ | omega) ?_)) | (show roomK _ _ _; (refine room_of (by first | omega | (dsimp only; omega)) ?_)) | (show ltK _ _ _; (refine lt_of (by omega) ?_)) | (show _ ∧ _; (refine ⟨?_, ?_⟩)) | (show keepK _ _ _ _ _; (refine keep_of (by first | exact List.Sublist.refl _ | exact List.Sublist.cons _ (List.Sublist.refl _) | exact List.Sublist.cons _ (List.Sublist.cons _ (List.Sublist.refl _)) | exact List.Sublist.cons _ (List.Sublist.cons _ (List.Sublist.cons _ (List.Sublist.refl _)))) (by first | exact (fun _ _ h => h) | exact (fun _ _ h => h.1) | exact (fun _ _ h => h.1.1)) ?_)) | (show ownK _ _ _ _ _; (refine own_keep ?_))))
    conv => whnf
    exact ends_of (fun _ _ h => h) (fun _ => by rw [← hm]; rfl) rfl
/-! spans held against spans -/
theorem c_span : Try.prog.cellsOf 67 = 2 := by kernel_rfl
theorem c_intI : Try.prog.cellsOf 3 = 1 := by kernel_rfl
theorem wf_ofI {x : Int} (h : i64 x) : (Lit.int .i64 x).wf = true := by
  simp [Lit.wf, IntKind.min, IntKind.max, IntKind.signed, IntKind.bits]
  exact ⟨h.1, by have := h.2; omega⟩
def spLits (s : Sp) : List Lit := [.int .i64 s.1, .int .i64 s.2]
theorem sp_lits (s : Sp) (h1 : i64 s.1) (h2 : i64 s.2) : Try.prog.keyLits 2 67 [.int .i64 s.1, .int .i64 s.2] = some (spLits s) := by
  simp [Program.keyLits, Try.underlying67, c_span, List.mapM_cons, Try.underlying3, c_intI, wf_ofI h1, wf_ofI h2]
  rfl
theorem span_eql {s : Sp} (h1 : i64 s.1) (h2 : i64 s.2) {ox oy : Operand} {K : SV → Prop} (h : K (.c (.bool true))) : pureK Try.prog (do eqGuard .eql 67 ox oy (spanV s) (spanV s); binOp .eql 67 (spanV s) (spanV s)) K := by
  rw [pureK_def]
  refine ⟨_, fun w => ?_, h⟩
  have g1 : (eqGuard .eql 67 ox oy (spanV s) (spanV s)).run Try.prog w = .ok () w := by
    have : Try.prog.eqGuardType Try.prog.depth 67 = false := by kernel_rfl
    simp [eqGuard, spanV, this]
  obtain ⟨r, q2, q3⟩ := run_equalIn_deep (P := Try.prog) 9998 2 67 (by kernel_rfl) w 2 2 (spanV s) (spanV s) (spLits s) (spLits s) (by simp [spanV, Value.formed, Try.underlying67, c_span]) (by simp [spanV, Value.formed, Try.underlying67, c_span]) (sp_lits s h1 h2) (sp_lits s h1 h2)
  have hr : r = true := q3.2 rfl
  subst hr
  have h4 : (Op.equal 67 (spanV s) (spanV s)).run Try.prog w = .ok true w := q2
  simp only [Sem.run_bind, g1, Result.andThen_ok]
  simp [spanV, binOp] at h4 ⊢
  rw [h4]; rfl
end Go.Proofs.Ytajbngkcgbehlaa
/- IX -/
namespace Go.Proofs.Ytajbngkcgbehlaa
open Go.SX Go.RowKit
theorem getD_memL {l : List (List Int)} {k : Nat} (h : k < l.length) : l.getD k [] ∈ l := by
  rw [List.getD_eq_getElem?_getD, List.getElem?_eq_getElem h]; exact List.getElem_mem h
def endsAt (sh : List (List Int)) (n : NodeV) (acc : List Sp) : List Int := endsA n (entries (sh.getD acc.length [])).toNat (sh.getD n.a.toNat []) (acc.getD n.a.toNat (0, 0)) (acc.getD n.b.toNat (0, 0))
def spansQ (sh : List (List Int)) : List NodeV → List Sp → Int × List Sp
  | [], acc => (0, acc)
  | n :: r, acc =>
    if foldI min (endsAt sh n acc) < -1048576 ∨ 1048576 < foldI max (endsAt sh n acc) then (5, [])
    else spansQ sh r (acc ++ [(foldI min (endsAt sh n acc), foldI max (endsAt sh n acc))])
def spansH (g : GraphV) : Int × List Sp := if (check g).1 ≠ 0 then ((check g).1, []) else spansQ (check g).2 g.l []
/-- a node of a graph that may be stands at its place -/
theorem place_in {g : GraphV} (h : (check g).1 = 0) {i : Nat} {n : NodeV} (hn : g.l[i]? = some n) : (0 ≤ n.a ∧ n.a.toNat < (check g).2.length ∧ (n.a.toNat < i ∨ n.a.toNat = 0)) ∧ (0 ≤ n.b ∧ n.b.toNat < (check g).2.length ∧ (n.b.toNat < i ∨ n.b.toNat = 0)) ∧ ∃ cnt : Nat, entries ((check g).2.getD i []) = cnt ∧ PlaceIn n ((check g).2.take i) ((check g).2.getD i []) ((check g).2.getD n.a.toNat []) cnt := by
  obtain ⟨hl1, hl24, hout, hcl, hin⟩ := check_in h
  have hpos := shapes_pos h
  obtain ⟨hlt, _⟩ := List.getElem?_eq_some_iff.1 hn
  obtain ⟨s, hs, hni⟩ := hin i n hn
  have hti : ((check g).2.take i).length = i := by rw [List.length_take, hcl]; omega
  have hform := hni.form
  rw [hti] at hform
  obtain ⟨hA, hB, _⟩ := ahead_of hform
  have hfo := formed_of hform
  have e1 : (check g).2.getD i [] = s := by rw [List.getD_eq_getElem?_getD, hs]; rfl
  rw [e1]
  refine ⟨⟨hA.1, by omega, by omega⟩, ⟨hB.1, by omega, by omega⟩, (entries s).toNat, by have := (entries_bd s).1; omega, ⟨hni, by have := (entries_bd s).1; omega, fun q hq => hpos q (List.mem_of_mem_take hq), fun hl => ?_⟩⟩
  unfold isLin at hl
  have ha := hfo.a (by omega) (by omega)
  have e2 : ((check g).2.take i).getD n.a.toNat [] = (check g).2.getD n.a.toNat [] := by
    rw [List.getD_eq_getElem?_getD, List.getD_eq_getElem?_getD, List.getElem?_take, if_pos (by omega)]
  refine ⟨e2, hpos _ (getD_memL (by omega))⟩
set_option maxRecDepth 20000 in
theorem spans_all (w : World) (g : GraphV) (hg : g.ok w) : Calls Try.prog 34 #[g.val] w (SpansPost w (spansH g)) := by
  refine calls_of tab tabOk Try.func34 rfl rfl rfl [] (fun _ => ⟨none, 0⟩) [.agg [.c (.slice g.base g.l.length g.cap), .c (.int .i64 g.out)]] [] (baseA w) 0 rfl rfl (by show 1 ≤ _; decide) (abs_base w) ?_
  (repeat' ((conv => whnf) <;> first | (show drawK _ 9 _ _ _ _ _ _; (refine draw_quiet tabOk mixed (by kernel_rfl) ?_)) | (show Wp _ _ _ _ _ _ _; (refine Wp.go tabOk rfl ?_)) | (show @cmpK _ _ _; (first | refine cmp_yes (by omega) ?_ | refine cmp_no (by omega) ?_ | (refine cmp_both ?_ ?_ <;> intro _))) | (show wrapK _ _ _; (refine wrap_i64 (by omega) (by omega) ?_)) | (show leK _ _ _; (refine le_of (by first | exact Nat.le_refl _ | omega) ?_)) | (show roomK _ _ _; (refine room_of (by first | omega | (dsimp only; omega)) ?_)) | (show ltK _ _ _; (refine lt_of (by omega) ?_)) | (show _ ∧ _; (refine ⟨?_, ?_⟩)) | (show keepK _ _ _ _ _; (refine keep_of (by first | exact List.Sublist.refl _ | exact List.Sublist.cons _ (List.Sublist.refl _) | exact List.Sublist.cons _ (List.Sublist.cons _ (List.Sublist.refl _)) | exact List.Sublist.cons _ (List.Sublist.cons _ (List.Sublist.cons _ (List.Sublist.refl _)))) (by first | exact (fun _ _ h => h) | exact (fun _ _ h => h.1) | exact (fun _ _ h => h.1.1)) ?_)) | (show ownK _ _ _ _ _; (refine own_keep ?_))))
  refine call_check (f := 17) (check g) Try.call17 (fun ρ w' hw => check_any w' g (holds_of_abs hw fun R h => hg.later h)) (fun hne => ?_) (fun he sv hm hsv => ?_)
  · have hq : spansH g = ((check g).1, []) := if_pos hne
    rw [hq]
    (repeat' ((conv => whnf) <;> first | (show @cmpK _ _ _; (refine cmp_yes hne ?_)) | (show drawK _ 9 _ _ _ _ _ _; (refine draw_quiet tabOk mixed (by kernel_rfl) ?_)) | (show Wp _ _ _ _ _ _ _; (refine Wp.go tabOk rfl ?_)) | (show @cmpK _ _ _; (first | refine cmp_yes (by omega) ?_ | refine cmp_no (by omega) ?_ | (refine cmp_both ?_ ?_ <;> intro _))) | (show wrapK _ _ _; (refine wrap_i64 (by omega) (by omega) ?_)) | (show leK _ _ _; (refine le_of (by first | exact Nat.le_refl _ | omega) ?_)) | (show roomK _ _ _; (refine room_of (by first | omega | (dsimp only; omega)) ?_)) | (show ltK _ _ _; (refine lt_of (by omega) ?_)) | (show _ ∧ _; (refine ⟨?_, ?_⟩)) | (show keepK _ _ _ _ _; (refine keep_of (by first | exact List.Sublist.refl _ | exact List.Sublist.cons _ (List.Sublist.refl _) | exact List.Sublist.cons _ (List.Sublist.cons _ (List.Sublist.refl _)) | exact List.Sublist.cons _ (List.Sublist.cons _ (List.Sublist.cons _ (List.Sublist.refl _)))) (by first | exact (fun _ _ h => h) | exact (fun _ _ h => h.1) | exact (fun _ _ h => h.1.1)) ?_)) | (show ownK _ _ _ _ _; (refine own_keep ?_))))
    conv => whnf
    exact spans_bad (fun _ _ h => h) rfl hne (fun _ => rfl)
  have hq : spansH g = spansQ (check g).2 g.l [] := if_neg (fun h => h he)
  rw [hq]
  obtain ⟨hl1, hl24, hout, hcl, hin⟩ := check_in he
  have hsl : sv.l.length = g.l.length := by rw [← hcl, ← hm]; simp
  (repeat' ((conv => whnf) <;> first | (show makeK _ _ _ _; (refine make_of g.l.length rfl rfl (by show 16 * _ ≤ _; omega) (by omega) ?_)) | (show drawK _ 9 _ _ _ _ _ _; (refine draw_quiet tabOk mixed (by kernel_rfl) ?_)) | (show Wp _ _ _ _ _ _ _; (refine Wp.go tabOk rfl ?_)) | (show @cmpK _ _ _; (first | refine cmp_yes (by omega) ?_ | refine cmp_no (by omega) ?_ | (refine cmp_both ?_ ?_ <;> intro _))) | (show wrapK _ _ _; (refine wrap_i64 (by omega) (by omega) ?_)) | (show leK _ _ _; (refine le_of (by first | exact Nat.le_refl _ | omega) ?_)) | (show roomK _ _ _; (refine room_of (by first | omega | (dsimp only; omega)) ?_)) | (show ltK _ _ _; (refine lt_of (by omega) ?_)) | (show _ ∧ _; (refine ⟨?_, ?_⟩)) | (show keepK _ _ _ _ _; (refine keep_of (by first | exact List.Sublist.refl _ | exact List.Sublist.cons _ (List.Sublist.refl _) | exact List.Sublist.cons _ (List.Sublist.cons _ (List.Sublist.refl _)) | exact List.Sublist.cons _ (List.Sublist.cons _ (List.Sublist.cons _ (List.Sublist.refl _)))) (by first | exact (fun _ _ h => h) | exact (fun _ _ h => h.1) | exact (fun _ _ h => h.1.1)) ?_)) | (show ownK _ _ _ _ _; (refine own_keep ?_))))
  refine Wp.loop (σ := Nat × List Sp) 2 (fun ⟨i, _⟩ => [(6, .os 1 g.l.length), (4, .c sv.val), (24, .c (.slice g.base g.l.length g.cap)), (25, .c (.int .i64 g.l.length)), (26, .c (.int .i64 i))]) (fun ⟨_, acc⟩ => [(1, .rows (spRows (gridS g.l.length acc)) 2 67)]) (fun _ => (baseA w).and ((shapesD sv).past w.heap.size))
    (fun ⟨i, acc⟩ => i ≤ g.l.length ∧ acc.length = i ∧ spansQ (check g).2 (g.l.drop i) acc = spansQ (check g).2 g.l [] ∧ (∀ s ∈ acc, bd20 s.1 ∧ bd20 s.2)) (fun s => g.l.length - s.1) (0, []) [] (by decide) (fun s => ⟨rfl, rfl⟩) ⟨Nat.zero_le _, rfl, rfl, fun s hs => by simp at hs⟩ ⟨rfl, ⟨rfl, rfl, rfl, rfl, rfl, trivial⟩, ⟨?_, trivial⟩, fun _ _ h => h⟩ ?_
  · have : spRows (gridS g.l.length []) = List.replicate g.l.length [Value.int .i64 0, .int .i64 0] := by simp [spRows, gridS]
    show (1, Ent.rows (spRows (gridS g.l.length [])) 2 67) ∈ _
    rw [this]
    exact (by repeat (first | exact List.mem_cons_self | apply List.mem_cons_of_mem))
  rintro ⟨i, acc⟩ ⟨hi, hal, hsp, hab⟩
  by_cases hlt : i < g.l.length
  · obtain ⟨a, ha⟩ : ∃ a, g.base = some a := base_some (j := i) hg.rows (by rw [nodeRows_length]; omega)
    have hnm := List.getElem_mem hlt
    obtain ⟨s, hs, hni⟩ := hin i g.l[i] (List.getElem?_eq_getElem hlt)
    have hdrop : g.l.drop i = g.l[i] :: g.l.drop (i + 1) := List.drop_eq_getElem_cons hlt
    rw [hdrop] at hsp
    have hrow := nodeRows_get hlt
    have hpi := place_in he (List.getElem?_eq_getElem hlt)
    generalize g.l[i] = n at *
    have hn := hg.each n hnm
    obtain ⟨⟨ha0, hal2, hai⟩, ⟨hb0, hbl2, hbi⟩, cnt, hcnt, hpl⟩ := hpi
    have e1 : (check g).2.getD i [] = s := by rw [List.getD_eq_getElem?_getD, hs]; rfl
    rw [e1] at hcnt hpl
    obtain ⟨u, hu, hus⟩ : ∃ u, sv.l[i]? = some u ∧ u.xs = s := by
      rw [← hm, List.getElem?_map] at hs
      cases hu : sv.l[i]? with
      | none => rw [hu] at hs; simp at hs
      | some u => rw [hu] at hs; exact ⟨u, rfl, by simpa using hs⟩
    obtain ⟨t, ht, hts⟩ : ∃ t, sv.l[n.a.toNat]? = some t ∧ t.xs = (check g).2.getD n.a.toNat [] := by
      have hlt2 : n.a.toNat < sv.l.length := by omega
      refine ⟨sv.l[n.a.toNat], List.getElem?_eq_getElem hlt2, ?_⟩
      rw [← hm, List.getD_eq_getElem?_getD, List.getElem?_map, List.getElem?_eq_getElem hlt2]; rfl
    have htm : t ∈ sv.l := List.mem_of_getElem? ht
    have hucnt : entries u.xs = cnt := by rw [hus]; exact hcnt
    rw [← hts] at hpl
    have hEq : endsAt (check g).2 n acc = endsA n cnt t.xs (acc.getD n.a.toNat (0, 0)) (acc.getD n.b.toNat (0, 0)) := by
      unfold endsAt
      rw [hal, e1, hcnt, hts]; rfl
    have hA2 := getD_sp hab n.a.toNat
    have hB2 := getD_sp hab n.b.toNat
    have hEL := endsA_len hpl (acc.getD n.a.toNat (0, 0)) (acc.getD n.b.toNat (0, 0))
    have gA := gridS_getD (n := g.l.length) (acc := acc) (j := n.a.toNat) (by omega) (by omega)
    have gB := gridS_getD (n := g.l.length) (acc := acc) (j := n.b.toNat) (by omega) (by omega)
    (repeat' ((conv => whnf) <;> first | (show idxK _ _ _ _ _; (refine idx_of a i ha rfl hlt ?_)) | (show roAggK _ _ _ _; (refine roAgg_row (fun R w' h => by rw [← ha]; exact rows_base h.1 hg.rows) _ hrow rfl ?_)) | (show callK _ 75 _ _ _ _ _; (refine call_pure (f := 75) Try.call75 (placeV n (inA n t) (fnA n t cnt) cnt) (fun ρ w' hw => at_all w' n sv (holds_of_abs hw fun R h => shapes_okI hsv (by omega) h.2) i u t cnt hu ht ha0 hucnt) ?_)) | (show idxRowK _ _ _ _ _ _; (first | refine idxRow_of n.a.toNat (by omega) (by omega) (by rw [spRows_length, gridS_length (by omega)]; exact Nat.le_refl _) ?_ | refine idxRow_of n.b.toNat (by omega) (by omega) (by rw [spRows_length, gridS_length (by omega)]; exact Nat.le_refl _) ?_)) | (show rowAggK _ _ _ _ _; (first | refine rowAgg_of _ _ gA rfl rfl ?_ | refine rowAgg_of _ _ gB rfl rfl ?_)) | (show drawK _ 9 _ _ _ _ _ _; (refine draw_tree tabOk mixed [] _ (.take 0 (.take 1 (.take 2 (.take 3 (.take 4 (.take 5 (.take 6 (.take 7 (.take 8 (.take 9 (.take 10 (.one 11 (.take 12 (.done)))))))))))))) (by kernel_rfl) (by kernel_rfl) (by kernel_rfl) (List.Sublist.refl _) ?_)) | (show callK _ 76 _ _ _ _ _; (refine call_past Try.call76 (fun x : IntsV × Bool => x.1.val) oldA (fun x => x.1.xs = endsA n cnt t.xs (acc.getD n.a.toNat (0, 0)) (acc.getD n.b.toNat (0, 0)) ∧ x.1.sane ∧ (x.2 = true → x.1 = n.data)) (fun ρ w' hw => ends_all w' n _ s t cnt hpl (holds_of_abs hw fun R h => hn.later h.1) (holds_of_abs hw fun R h => (shapes_okI hsv (by omega) h.2).each t htm) (acc.getD n.a.toNat (0, 0)) (acc.getD n.b.toNat (0, 0)) hA2 hB2) (fun x hx => ?_))) | (show Wp _ _ _ _ _ _ _; (refine Wp.go tabOk rfl ?_)) | (show @cmpK _ _ _; (first | refine cmp_yes (by omega) ?_ | refine cmp_no (by omega) ?_ | (refine cmp_both ?_ ?_ <;> intro _))) | (show wrapK _ _ _; (refine wrap_i64 (by omega) (by omega) ?_)) | (show leK _ _ _; (refine le_of (by first | exact Nat.le_refl _ | omega) ?_)) | (show roomK _ _ _; (refine room_of (by first | omega | (dsimp only; omega)) ?_)) | (show ltK _ _ _; (refine lt_of (by omega) ?_)) | (show _ ∧ _; (refine ⟨?_, ?_⟩)) | (show keepK _ _ _ _ _; (refine keep_of (by first | exact List.Sublist.refl _ | exact List.Sublist.cons _ (List.Sublist.refl _) | exact List.Sublist.cons _ (List.Sublist.cons _ (List.Sublist.refl _)) | exact List.Sublist.cons _ (List.Sublist.cons _ (List.Sublist.cons _ (List.Sublist.refl _)))) (by first | exact (fun _ _ h => h) | exact (fun _ _ h => h.1) | exact (fun _ _ h => h.1.1)) ?_)) | (show ownK _ _ _ _ _; (refine own_keep ?_))))
    all_goals
      obtain ⟨hx1, hx2, hx3⟩ := hx
      rw [← hx1] at hEL
      by_cases hr : foldI min x.1.xs < -1048576 ∨ 1048576 < foldI max x.1.xs
      · have hq2 : spansQ (check g).2 (n :: g.l.drop (i + 1)) acc = (5, []) := by simp only [spansQ]; rw [hEq, ← hx1, if_pos hr]
        rw [hq2] at hsp
        rw [← hsp]
        (repeat' ((conv => whnf) <;> first | (show callK _ 77 _ _ _ _ _; (refine call_pure (f := 77) Try.call77 (.int .i64 (foldI min x.1.xs)) (fun ρ w' hw => min_any w' x.1 (holds_of_abs hw fun R h => x_ok hn.data hx2 hx3 h.1.1 h.2) hEL) ?_)) | (show callK _ 78 _ _ _ _ _; (refine call_pure (f := 78) Try.call78 (.int .i64 (foldI max x.1.xs)) (fun ρ w' hw => max_any w' x.1 (holds_of_abs hw fun R h => x_ok hn.data hx2 hx3 h.1.1 h.2) hEL) ?_)) | (show idxRowK _ _ _ _ _ _; (refine idxRow_of i rfl hlt (by rw [spRows_length, gridS_length (by first | omega | (rw [List.length_append, List.length_singleton]; omega))]; exact Nat.le_refl _) ?_)) | (show ltK _ _ _; (refine lt_of (by rw [spRows_length, gridS_length (by rw [List.length_append, List.length_singleton]; omega)]; exact hlt) ?_)) | (show rowStoreK _ _ _ _ _; (refine gridS_store hal hlt ?_)) | (show rowK _ _ _ _; (refine row_of _ _ (gridS_at hal hlt) rfl ?_)) | (show drawK _ 9 _ _ _ _ _ _; (refine draw_quiet tabOk mixed (by kernel_rfl) ?_)) | (show Wp _ _ _ _ _ _ _; (refine Wp.go tabOk rfl ?_)) | (show @cmpK _ _ _; (first | refine cmp_yes (by omega) ?_ | refine cmp_no (by omega) ?_ | (refine cmp_both ?_ ?_ <;> intro _))) | (show wrapK _ _ _; (refine wrap_i64 (by omega) (by omega) ?_)) | (show leK _ _ _; (refine le_of (by first | exact Nat.le_refl _ | omega) ?_)) | (show roomK _ _ _; (refine room_of (by first | omega | (dsimp only; omega)) ?_)) | (show ltK _ _ _; (refine lt_of (by omega) ?_)) | (show _ ∧ _; (refine ⟨?_, ?_⟩)) | (show keepK _ _ _ _ _; (refine keep_of (by first | exact List.Sublist.refl _ | exact List.Sublist.cons _ (List.Sublist.refl _) | exact List.Sublist.cons _ (List.Sublist.cons _ (List.Sublist.refl _)) | exact List.Sublist.cons _ (List.Sublist.cons _ (List.Sublist.cons _ (List.Sublist.refl _)))) (by first | exact (fun _ _ h => h) | exact (fun _ _ h => h.1) | exact (fun _ _ h => h.1.1)) ?_)) | (show ownK _ _ _ _ _; (refine own_keep ?_))))
        all_goals (conv => whnf)
        all_goals first | omega | exact spans_bad (fun _ _ h => h.1.1) rfl (by decide) (fun _ => rfl)
      · have hq2 : spansQ (check g).2 (n :: g.l.drop (i + 1)) acc = spansQ (check g).2 (g.l.drop (i + 1)) (acc ++ [(foldI min x.1.xs, foldI max x.1.xs)]) := by
          conv => lhs; unfold spansQ
          rw [hEq, ← hx1, if_neg hr]
        rw [hq2] at hsp
        have hle := foldI_le hEL
        (repeat' ((conv => whnf) <;> first | (show callK _ 77 _ _ _ _ _; (refine call_pure (f := 77) Try.call77 (.int .i64 (foldI min x.1.xs)) (fun ρ w' hw => min_any w' x.1 (holds_of_abs hw fun R h => x_ok hn.data hx2 hx3 h.1.1 h.2) hEL) ?_)) | (show callK _ 78 _ _ _ _ _; (refine call_pure (f := 78) Try.call78 (.int .i64 (foldI max x.1.xs)) (fun ρ w' hw => max_any w' x.1 (holds_of_abs hw fun R h => x_ok hn.data hx2 hx3 h.1.1 h.2) hEL) ?_)) | (show idxRowK _ _ _ _ _ _; (refine idxRow_of i rfl hlt (by rw [spRows_length, gridS_length (by first | omega | (rw [List.length_append, List.length_singleton]; omega))]; exact Nat.le_refl _) ?_)) | (show ltK _ _ _; (refine lt_of (by rw [spRows_length, gridS_length (by rw [List.length_append, List.length_singleton]; omega)]; exact hlt) ?_)) | (show rowStoreK _ _ _ _ _; (refine gridS_store hal hlt ?_)) | (show rowK _ _ _ _; (refine row_of _ _ (gridS_at hal hlt) rfl ?_)) | (show drawK _ 9 _ _ _ _ _ _; (refine draw_quiet tabOk mixed (by kernel_rfl) ?_)) | (show Wp _ _ _ _ _ _ _; (refine Wp.go tabOk rfl ?_)) | (show @cmpK _ _ _; (first | refine cmp_yes (by omega) ?_ | refine cmp_no (by omega) ?_ | (refine cmp_both ?_ ?_ <;> intro _))) | (show wrapK _ _ _; (refine wrap_i64 (by omega) (by omega) ?_)) | (show leK _ _ _; (refine le_of (by first | exact Nat.le_refl _ | omega) ?_)) | (show roomK _ _ _; (refine room_of (by first | omega | (dsimp only; omega)) ?_)) | (show ltK _ _ _; (refine lt_of (by omega) ?_)) | (show _ ∧ _; (refine ⟨?_, ?_⟩)) | (show keepK _ _ _ _ _; (refine keep_of (by first | exact List.Sublist.refl _ | exact List.Sublist.cons _ (List.Sublist.refl _) | exact List.Sublist.cons _ (List.Sublist.cons _ (List.Sublist.refl _)) | exact List.Sublist.cons _ (List.Sublist.cons _ (List.Sublist.cons _ (List.Sublist.refl _)))) (by first | exact (fun _ _ h => h) | exact (fun _ _ h => h.1) | exact (fun _ _ h => h.1.1)) ?_)) | (show ownK _ _ _ _ _; (refine own_keep ?_))))
        all_goals (conv => whnf)
        all_goals exact ⟨(i + 1, acc ++ [(foldI min x.1.xs, foldI max x.1.xs)]), [], ⟨hlt, by rw [List.length_append, hal]; rfl, hsp, fun s hs => by
          rcases List.mem_append.1 hs with h | h
          · exact hab s h
          · simp at h; subst h; unfold bd20; omega⟩, by simp only; omega, rfl, ⟨rfl, rfl, rfl, rfl, rfl, trivial⟩, ⟨(by repeat (first | exact List.mem_cons_self | apply List.mem_cons_of_mem)), trivial⟩, fun _ _ h => h.1⟩
  · obtain rfl : i = g.l.length := by omega
    rw [List.drop_length] at hsp
    (repeat' ((conv => whnf) <;> first | (show drawK _ 9 _ _ _ _ _ _; (refine draw_quiet tabOk mixed (by kernel_rfl) ?_)) | (show Wp _ _ _ _ _ _ _; (refine Wp.go tabOk rfl ?_)) | (show @cmpK _ _ _; (first | refine cmp_yes (by omega) ?_ | refine cmp_no (by omega) ?_ | (refine cmp_both ?_ ?_ <;> intro _))) | (show wrapK _ _ _; (refine wrap_i64 (by omega) (by omega) ?_)) | (show leK _ _ _; (refine le_of (by first | exact Nat.le_refl _ | omega) ?_)) | (show roomK _ _ _; (refine room_of (by first | omega | (dsimp only; omega)) ?_)) | (show ltK _ _ _; (refine lt_of (by omega) ?_)) | (show _ ∧ _; (refine ⟨?_, ?_⟩)) | (show keepK _ _ _ _ _; (refine keep_of (by first | exact List.Sublist.refl _ | exact List.Sublist.cons _ (List.Sublist.refl _) | exact List.Sublist.cons _ (List.Sublist.cons _ (List.Sublist.refl _)) | exact List.Sublist.cons _ (List.Sublist.cons _ (List.Sublist.cons _ (List.Sublist.refl _)))) (by first | exact (fun _ _ h => h) | exact (fun _ _ h => h.1) | exact (fun _ _ h => h.1.1)) ?_)) | (show ownK _ _ _ _ _; (refine own_keep ?_))))
    conv => whnf
    have hgr : gridS g.l.length acc = acc := by unfold gridS; rw [hal, Nat.sub_self]; simp
    exact spans_good (l := gridS g.l.length acc) (fun _ _ h => h.1) rfl (by repeat (first | exact List.mem_cons_self | apply List.mem_cons_of_mem)) (by rw [hgr, hal]) (by rw [hgr, ← hsp]; rfl)
end Go.Proofs.Ytajbngkcgbehlaa
/- IY -/
namespace Go.Proofs.Ytajbngkcgbehlaa
open Go.SX Go.RowKit
/-! what a graph tells, plain, of all kinds -/
def numsAt (sh : List (List Int)) (n : NodeV) (known : List (List Int)) : List Int := numsA n (entries (sh.getD known.length [])).toNat (sh.getD n.a.toNat []) (known.getD n.a.toNat []) (known.getD n.b.toNat [])
def valsQ (sh : List (List Int)) : List NodeV → List (List Int) → List (List Int) → Int × List (List Int)
  | [], known, inp => if 0 < inp.length then (12, []) else (0, known)
  | n :: r, known, inp =>
    if n.kind ≠ 1 then valsQ sh r (known ++ [numsAt sh n known]) inp
    else match inp with
      | [] => (12, [])
      | x :: xs => if (x.length : Int) ≠ entries (sh.getD known.length []) ∨ foldI min x < n.lo ∨ n.hi < foldI max x then (12, []) else valsQ sh r (known ++ [x]) xs
def valsH (g : GraphV) (inp : List (List Int)) : Int × List (List Int) := valsQ (check g).2 g.l [] inp
def runH (g : GraphV) (inp : List (List Int)) : Int × List Int :=
  if (spansH g).1 ≠ 0 then ((spansH g).1, []) else if (valsH g inp).1 ≠ 0 then ((valsH g inp).1, []) else (0, (valsH g inp).2.getD g.out.toNat [])
def spanAt (sh : List (List Int)) (n : NodeV) (acc : List Sp) : Sp := spanE (endsAt sh n acc)
theorem spansQ_in {sh : List (List Int)} : ∀ {l : List NodeV} {acc S : List Sp}, spansQ sh l acc = (0, S) → ∃ q, S = acc ++ q ∧ q.length = l.length ∧ ∀ i n, l[i]? = some n → ∃ s, q[i]? = some s ∧ s = spanAt sh n (acc ++ q.take i) ∧ -1048576 ≤ s.1 ∧ s.2 ≤ 1048576
  | [], acc, S, h => by
    obtain rfl : acc = S := by simpa [spansQ] using h
    exact ⟨[], by simp, rfl, fun i n hn => by simp at hn⟩
  | m :: r, acc, S, h => by
    by_cases hr : (spanAt sh m acc).1 < -1048576 ∨ 1048576 < (spanAt sh m acc).2
    · have : spansQ sh (m :: r) acc = (5, []) := if_pos hr
      rw [this] at h; simp at h
    · have : spansQ sh (m :: r) acc = spansQ sh r (acc ++ [spanAt sh m acc]) := if_neg hr
      rw [this] at h
      obtain ⟨q, hq, hl, ha⟩ := spansQ_in h
      refine ⟨spanAt sh m acc :: q, by rw [hq, List.append_assoc]; rfl, by simp [hl], fun i n hin => ?_⟩
      cases i with
      | zero =>
        simp only [List.getElem?_cons_zero, Option.some.injEq] at hin
        subst hin
        exact ⟨_, rfl, by simp, by omega, by omega⟩
      | succ i =>
        simp only [List.getElem?_cons_succ] at hin
        obtain ⟨t, h1, h2, h3⟩ := ha i n hin
        refine ⟨t, by simpa using h1, ?_, h3⟩
        rw [List.take_succ_cons, show acc ++ spanAt sh m acc :: q.take i = acc ++ [spanAt sh m acc] ++ q.take i by simp]
        exact h2
theorem spansH_in {g : GraphV} (h : (spansH g).1 = 0) : (check g).1 = 0 ∧ (spansH g).2.length = g.l.length ∧ ∀ i n, g.l[i]? = some n → ∃ s, (spansH g).2[i]? = some s ∧ s = spanAt (check g).2 n ((spansH g).2.take i) ∧ -1048576 ≤ s.1 ∧ s.2 ≤ 1048576 := by
  unfold spansH at h ⊢
  by_cases hc : (check g).1 ≠ 0
  · rw [if_pos hc] at h; exact absurd h hc
  · rw [if_neg hc] at h ⊢
    obtain ⟨q, hq, hl, ha⟩ := spansQ_in (l := g.l) (acc := []) (S := (spansQ (check g).2 g.l []).2) (Prod.ext h rfl)
    rw [List.nil_append] at hq
    rw [hq]
    exact ⟨by omega, hl, fun i n hn => by simpa using ha i n hn⟩
/-- known so far: as many as there should be, within their spans -/
structure KnownH (g : GraphV) (kn : List IntsV) (i : Nat) : Prop where
  len : kn.length = i
  sane : ∀ u ∈ kn, u.sane
  each : ∀ (j : Nat) (u : IntsV) (s : Sp) (q : List Int), kn[j]? = some u → (spansH g).2[j]? = some s → (check g).2[j]? = some q → within s u.xs ∧ (u.xs.length : Int) = entries q
theorem known_argH {g : GraphV} {kn : List IntsV} {i : Nat} (hsp : (spansH g).1 = 0) (hkn : KnownH g kn i) (hi : i ≤ g.l.length) (k : Nat) : within (((spansH g).2.take i).getD k (0, 0)) (kn.getD k nilI).xs ∧ (∀ x ∈ (kn.getD k nilI).xs, bd20 x) ∧ (k < i → ((kn.getD k nilI).xs.length : Int) = entries (((check g).2.take i).getD k [])) := by
  obtain ⟨hck, hsl, hsi⟩ := spansH_in hsp
  obtain ⟨hl1, hl24, hout, hcl, hin⟩ := check_in hck
  have hkl := hkn.len
  rcases Nat.lt_or_ge k i with hk | hk
  · have hkg : k < g.l.length := by omega
    obtain ⟨p, hp, _, hp1, hp2⟩ := hsi k g.l[k] (List.getElem?_eq_getElem hkg)
    obtain ⟨s, hs, _⟩ := hin k g.l[k] (List.getElem?_eq_getElem hkg)
    have hk' : k < kn.length := by omega
    obtain ⟨h1, h2⟩ := hkn.each k kn[k] p s (List.getElem?_eq_getElem hk') hp hs
    have e1 : kn.getD k nilI = kn[k] := by rw [List.getD_eq_getElem?_getD, List.getElem?_eq_getElem hk']; rfl
    have e2 : ((spansH g).2.take i).getD k (0, 0) = p := by rw [List.getD_eq_getElem?_getD, List.getElem?_take, if_pos hk, hp]; rfl
    have e3 : ((check g).2.take i).getD k [] = s := by rw [List.getD_eq_getElem?_getD, List.getElem?_take, if_pos hk, hs]; rfl
    rw [e1, e2, e3]
    exact ⟨h1, fun x hx => by have := h1 x hx; unfold bd20; omega, fun _ => h2⟩
  · have e1 : kn.getD k nilI = nilI := by rw [List.getD_eq_getElem?_getD, List.getElem?_eq_none (by omega)]; rfl
    rw [e1]
    exact ⟨fun x hx => by simp [nilI] at hx, fun x hx => by simp [nilI] at hx, fun h => by omega⟩
theorem num_inH {g : GraphV} {kn : List IntsV} {i : Nat} {n : NodeV} (hsp : (spansH g).1 = 0) (hkn : KnownH g kn i) (hi : i ≤ g.l.length) (hf : Formed n i) : NumIn n ((check g).2.take i) (kn.getD n.a.toNat nilI).xs (kn.getD n.b.toNat nilI).xs :=
  ⟨fun k1 k2 => (known_argH hsp hkn hi n.a.toNat).2.2 (by have := hf.a k1 k2; omega), fun k6 => (known_argH hsp hkn hi n.b.toNat).2.2 (by have := hf.b k6; omega)⟩
theorem known_snocH {g : GraphV} {kn : List IntsV} {i : Nat} {x : IntsV} {s : List Int} {p : Sp} (hkn : KnownH g kn i) (hx : x.sane) (hp : (spansH g).2[i]? = some p) (hs : (check g).2[i]? = some s) (hw : within p x.xs) (hl : (x.xs.length : Int) = entries s) : KnownH g (kn ++ [x]) (i + 1) := by
  have hkl := hkn.len
  refine ⟨by rw [List.length_append, hkl]; rfl, fun u hu => ?_, fun j u p' q hu hp' hq => ?_⟩
  · rcases List.mem_append.1 hu with h | h
    · exact hkn.sane u h
    · simp at h; subst h; exact hx
  · rcases Nat.lt_or_ge j i with hj | hj
    · rw [List.getElem?_append_left (by omega)] at hu
      exact hkn.each j u p' q hu hp' hq
    · rw [List.getElem?_append_right (by omega)] at hu
      have h0 : j - kn.length = 0 := by
        rcases Nat.eq_zero_or_pos (j - kn.length) with h | h
        · exact h
        · rw [List.getElem?_eq_none (by simp; omega)] at hu; cases hu
      rw [h0] at hu
      simp only [List.getElem?_cons_zero, Option.some.injEq] at hu
      subst hu
      obtain rfl : j = i := by omega
      rw [hp] at hp'
      rw [hs] at hq
      simp only [Option.some.injEq] at hp' hq
      subst hp' hq
      exact ⟨hw, hl⟩
set_option maxRecDepth 20000 in
set_option maxHeartbeats 2000000 in
theorem run_all (w : World) (g : GraphV) (hg : g.ok w) (iv : ShapesV) (hiv : InV.ok w iv) : Calls Try.prog 37 #[g.val, iv.val] w (RunPost w (runH g (iv.l.map IntsV.xs))) := by
  have hivf := hiv.few
  refine calls_of tab tabOk Try.func37 rfl rfl rfl [] (fun _ => ⟨none, 0⟩) [.agg [.c (.slice g.base g.l.length g.cap), .c (.int .i64 g.out)], .c iv.val] [] (baseA w) 0 rfl rfl (by show 2 ≤ _; decide) (abs_base w) ?_
  (repeat' ((conv => whnf) <;> first | (show drawK _ 11 _ _ _ _ _ _; (refine draw_tree tabOk mixed [15] _ (.take 0 (.take 1 (.take 2 (.take 3 (.take 4 (.take 5 (.take 6 (.take 7 (.take 8 (.take 9 (.take 10 (.take 11 (.take 12 (.one 13 (.take 14 (.one 15 (.done))))))))))))))))) (by kernel_rfl) (by kernel_rfl) (by kernel_rfl) (List.Sublist.refl _) ?_)) | (show drawK _ 12 _ _ _ _ _ _; (refine draw_quiet tabOk mixed (by kernel_rfl) ?_)) | (show drawK _ 14 _ _ _ _ _ _; (refine draw_tree tabOk mixed [9] _ (.take 0 (.take 1 (.take 2 (.take 3 (.take 4 (.alt 5 (.take 8 (.alt 6 (.alt 7 (.one 9 (.one 10 (.done))) (.one 9 (.one 7 (.one 10 (.done))))) (.one 9 (.one 6 (.one 7 (.one 10 (.done))))))) (.one 6 (.alt 5 (.take 8 (.alt 7 (.one 9 (.one 10 (.done))) (.one 9 (.one 7 (.one 10 (.done)))))) (.one 7 (.one 5 (.take 8 (.one 9 (.one 10 (.done)))))))))))))) (by kernel_rfl) (by kernel_rfl) (by kernel_rfl) (List.Sublist.refl _) ?_)) | (show Wp _ _ _ _ _ _ _; (refine Wp.go tabOk rfl ?_)) | (show @cmpK _ _ _; (first | refine cmp_yes (by omega) ?_ | refine cmp_no (by omega) ?_ | (refine cmp_both ?_ ?_ <;> intro _))) | (show wrapK _ _ _; (refine wrap_i64 (by omega) (by omega) ?_)) | (show leK _ _ _; (refine le_of (by first | exact Nat.le_refl _ | omega) ?_)) | (show roomK _ _ _; (refine room_of (by first | omega | (dsimp only; omega)) ?_)) | (show ltK _ _ _; (refine lt_of (by omega) ?_)) | (show _ ∧ _; (refine ⟨?_, ?_⟩)) | (show keepK _ _ _ _ _; (refine keep_of (by first | exact List.Sublist.refl _ | exact List.Sublist.cons _ (List.Sublist.refl _) | exact List.Sublist.cons _ (List.Sublist.cons _ (List.Sublist.refl _)) | exact List.Sublist.cons _ (List.Sublist.cons _ (List.Sublist.cons _ (List.Sublist.refl _)))) (by first | exact (fun _ _ h => h) | exact (fun _ _ h => h.1) | exact (fun _ _ h => h.1.1)) ?_)) | (show ownK _ _ _ _ _; (refine own_keep ?_))))
  refine call_spans (f := 34) (spansH g) Try.call34 (fun ρ w' hw => spans_all w' g (holds_of_abs hw fun R h => hg.later h)) (fun hne => ?_) (fun hsp base cap => ?_)
  · have hq : runH g (iv.l.map IntsV.xs) = ((spansH g).1, []) := if_pos hne
    rw [hq]
    (repeat' ((conv => whnf) <;> first | (show @cmpK _ _ _; (refine cmp_yes hne ?_)) | (show drawK _ 11 _ _ _ _ _ _; (refine draw_tree tabOk mixed [15] _ (.take 0 (.take 1 (.take 2 (.take 3 (.take 4 (.take 5 (.take 6 (.take 7 (.take 8 (.take 9 (.take 10 (.take 11 (.take 12 (.one 13 (.take 14 (.one 15 (.done))))))))))))))))) (by kernel_rfl) (by kernel_rfl) (by kernel_rfl) (List.Sublist.refl _) ?_)) | (show drawK _ 12 _ _ _ _ _ _; (refine draw_quiet tabOk mixed (by kernel_rfl) ?_)) | (show drawK _ 14 _ _ _ _ _ _; (refine draw_tree tabOk mixed [9] _ (.take 0 (.take 1 (.take 2 (.take 3 (.take 4 (.alt 5 (.take 8 (.alt 6 (.alt 7 (.one 9 (.one 10 (.done))) (.one 9 (.one 7 (.one 10 (.done))))) (.one 9 (.one 6 (.one 7 (.one 10 (.done))))))) (.one 6 (.alt 5 (.take 8 (.alt 7 (.one 9 (.one 10 (.done))) (.one 9 (.one 7 (.one 10 (.done)))))) (.one 7 (.one 5 (.take 8 (.one 9 (.one 10 (.done)))))))))))))) (by kernel_rfl) (by kernel_rfl) (by kernel_rfl) (List.Sublist.refl _) ?_)) | (show Wp _ _ _ _ _ _ _; (refine Wp.go tabOk rfl ?_)) | (show @cmpK _ _ _; (first | refine cmp_yes (by omega) ?_ | refine cmp_no (by omega) ?_ | (refine cmp_both ?_ ?_ <;> intro _))) | (show wrapK _ _ _; (refine wrap_i64 (by omega) (by omega) ?_)) | (show leK _ _ _; (refine le_of (by first | exact Nat.le_refl _ | omega) ?_)) | (show roomK _ _ _; (refine room_of (by first | omega | (dsimp only; omega)) ?_)) | (show ltK _ _ _; (refine lt_of (by omega) ?_)) | (show _ ∧ _; (refine ⟨?_, ?_⟩)) | (show keepK _ _ _ _ _; (refine keep_of (by first | exact List.Sublist.refl _ | exact List.Sublist.cons _ (List.Sublist.refl _) | exact List.Sublist.cons _ (List.Sublist.cons _ (List.Sublist.refl _)) | exact List.Sublist.cons _ (List.Sublist.cons _ (List.Sublist.cons _ (List.Sublist.refl _)))) (by first | exact (fun _ _ h => h) | exact (fun _ _ h => h.1) | exact (fun _ _ h => h.1.1)) ?_)) | (show ownK _ _ _ _ _; (refine own_keep ?_))))
    conv => whnf
    exact run_bad (fun _ _ h => h) rfl hne (fun _ => rfl)
  have hq : runH g (iv.l.map IntsV.xs) = if (valsH g (iv.l.map IntsV.xs)).1 ≠ 0 then ((valsH g (iv.l.map IntsV.xs)).1, []) else (0, (valsH g (iv.l.map IntsV.xs)).2.getD g.out.toNat []) := if_neg (fun h => h hsp)
  rw [hq]
  obtain ⟨hck, hsl, hsi⟩ := spansH_in hsp
  obtain ⟨hl1, hl24, hout, hcl, hin⟩ := check_in hck
  (repeat' ((conv => whnf) <;> first | (show drawK _ 11 _ _ _ _ _ _; (refine draw_tree tabOk mixed [15] _ (.take 0 (.take 1 (.take 2 (.take 3 (.take 4 (.take 5 (.take 6 (.take 7 (.take 8 (.take 9 (.take 10 (.take 11 (.take 12 (.one 13 (.take 14 (.one 15 (.done))))))))))))))))) (by kernel_rfl) (by kernel_rfl) (by kernel_rfl) (List.Sublist.refl _) ?_)) | (show drawK _ 12 _ _ _ _ _ _; (refine draw_quiet tabOk mixed (by kernel_rfl) ?_)) | (show drawK _ 14 _ _ _ _ _ _; (refine draw_tree tabOk mixed [9] _ (.take 0 (.take 1 (.take 2 (.take 3 (.take 4 (.alt 5 (.take 8 (.alt 6 (.alt 7 (.one 9 (.one 10 (.done))) (.one 9 (.one 7 (.one 10 (.done))))) (.one 9 (.one 6 (.one 7 (.one 10 (.done))))))) (.one 6 (.alt 5 (.take 8 (.alt 7 (.one 9 (.one 10 (.done))) (.one 9 (.one 7 (.one 10 (.done)))))) (.one 7 (.one 5 (.take 8 (.one 9 (.one 10 (.done)))))))))))))) (by kernel_rfl) (by kernel_rfl) (by kernel_rfl) (List.Sublist.refl _) ?_)) | (show Wp _ _ _ _ _ _ _; (refine Wp.go tabOk rfl ?_)) | (show @cmpK _ _ _; (first | refine cmp_yes (by omega) ?_ | refine cmp_no (by omega) ?_ | (refine cmp_both ?_ ?_ <;> intro _))) | (show wrapK _ _ _; (refine wrap_i64 (by omega) (by omega) ?_)) | (show leK _ _ _; (refine le_of (by first | exact Nat.le_refl _ | omega) ?_)) | (show roomK _ _ _; (refine room_of (by first | omega | (dsimp only; omega)) ?_)) | (show ltK _ _ _; (refine lt_of (by omega) ?_)) | (show _ ∧ _; (refine ⟨?_, ?_⟩)) | (show keepK _ _ _ _ _; (refine keep_of (by first | exact List.Sublist.refl _ | exact List.Sublist.cons _ (List.Sublist.refl _) | exact List.Sublist.cons _ (List.Sublist.cons _ (List.Sublist.refl _)) | exact List.Sublist.cons _ (List.Sublist.cons _ (List.Sublist.cons _ (List.Sublist.refl _)))) (by first | exact (fun _ _ h => h) | exact (fun _ _ h => h.1) | exact (fun _ _ h => h.1.1)) ?_)) | (show ownK _ _ _ _ _; (refine own_keep ?_))))
  refine call_check (f := 17) (check g) Try.call17 (fun ρ w' hw => check_any w' g (holds_of_abs hw fun R h => hg.later h.1)) (fun hne => absurd hck hne) (fun _ sv hm hsv => ?_)
  have hsvl : sv.l.length = g.l.length := by rw [← hcl, ← hm]; simp
  (repeat' ((conv => whnf) <;> first | (show makeK _ _ _ _; (refine make_of g.l.length rfl rfl (by show 24 * _ ≤ _; omega) (by omega) ?_)) | (show drawK _ 11 _ _ _ _ _ _; (refine draw_tree tabOk mixed [15] _ (.take 0 (.take 1 (.take 2 (.take 3 (.take 4 (.take 5 (.take 6 (.take 7 (.take 8 (.take 9 (.take 10 (.take 11 (.take 12 (.one 13 (.take 14 (.one 15 (.done))))))))))))))))) (by kernel_rfl) (by kernel_rfl) (by kernel_rfl) (List.Sublist.refl _) ?_)) | (show drawK _ 12 _ _ _ _ _ _; (refine draw_quiet tabOk mixed (by kernel_rfl) ?_)) | (show drawK _ 14 _ _ _ _ _ _; (refine draw_tree tabOk mixed [9] _ (.take 0 (.take 1 (.take 2 (.take 3 (.take 4 (.alt 5 (.take 8 (.alt 6 (.alt 7 (.one 9 (.one 10 (.done))) (.one 9 (.one 7 (.one 10 (.done))))) (.one 9 (.one 6 (.one 7 (.one 10 (.done))))))) (.one 6 (.alt 5 (.take 8 (.alt 7 (.one 9 (.one 10 (.done))) (.one 9 (.one 7 (.one 10 (.done)))))) (.one 7 (.one 5 (.take 8 (.one 9 (.one 10 (.done)))))))))))))) (by kernel_rfl) (by kernel_rfl) (by kernel_rfl) (List.Sublist.refl _) ?_)) | (show Wp _ _ _ _ _ _ _; (refine Wp.go tabOk rfl ?_)) | (show @cmpK _ _ _; (first | refine cmp_yes (by omega) ?_ | refine cmp_no (by omega) ?_ | (refine cmp_both ?_ ?_ <;> intro _))) | (show wrapK _ _ _; (refine wrap_i64 (by omega) (by omega) ?_)) | (show leK _ _ _; (refine le_of (by first | exact Nat.le_refl _ | omega) ?_)) | (show roomK _ _ _; (refine room_of (by first | omega | (dsimp only; omega)) ?_)) | (show ltK _ _ _; (refine lt_of (by omega) ?_)) | (show _ ∧ _; (refine ⟨?_, ?_⟩)) | (show keepK _ _ _ _ _; (refine keep_of (by first | exact List.Sublist.refl _ | exact List.Sublist.cons _ (List.Sublist.refl _) | exact List.Sublist.cons _ (List.Sublist.cons _ (List.Sublist.refl _)) | exact List.Sublist.cons _ (List.Sublist.cons _ (List.Sublist.cons _ (List.Sublist.refl _)))) (by first | exact (fun _ _ h => h) | exact (fun _ _ h => h.1) | exact (fun _ _ h => h.1.1)) ?_)) | (show ownK _ _ _ _ _; (refine own_keep ?_))))
  refine Wp.loop (σ := Nat × List IntsV × ShapesV) 2 (fun ⟨i, _, cur⟩ => [(2, .lp 0 0 0 0), (1, .c cur.val), (8, .c sv.val), (10, .os 1 g.l.length), (32, .c (.slice g.base g.l.length g.cap)), (33, .c (.int .i64 g.l.length)), (34, .c (.int .i64 i))]) (fun ⟨_, kn, _⟩ => [(1, .rows (shRows (gridK g.l.length kn)) 1 32), (0, .box [.c (.slice g.base g.l.length g.cap), .c (.int .i64 g.out)] 24)]) (fun ⟨_, kn, _⟩ => ((baseA w).and ((shapesD sv).past w.heap.size)).and (eachA w.heap.size kn))
    (fun ⟨i, kn, cur⟩ => i ≤ g.l.length ∧ KnownH g kn i ∧ InV.ok w cur ∧ valsQ (check g).2 (g.l.drop i) (kn.map IntsV.xs) (cur.l.map IntsV.xs) = valsH g (iv.l.map IntsV.xs)) (fun s => g.l.length - s.1) (0, [], iv) [] (by decide) (fun s => ⟨rfl, rfl⟩) ⟨Nat.zero_le _, ⟨rfl, fun u hu => by simp at hu, fun j u s q hu => by simp at hu⟩, hiv, rfl⟩ ⟨rfl, ⟨rfl, rfl, rfl, rfl, rfl, rfl, rfl, trivial⟩, ⟨?_, (by repeat (first | exact List.mem_cons_self | apply List.mem_cons_of_mem)), trivial⟩, fun R w h => ⟨⟨h.1.1, h.2⟩, eachA_nil _ R w⟩⟩ ?_
  · have : shRows (gridK g.l.length []) = List.replicate g.l.length [Value.slice none 0 0] := by simp [shRows, gridK]; exact .inr rfl
    show (1, Ent.rows (shRows (gridK g.l.length [])) 1 32) ∈ _
    rw [this]
    exact (by repeat (first | exact List.mem_cons_self | apply List.mem_cons_of_mem))
  rintro ⟨i, kn, cur⟩ ⟨hi, hkn, hcur, hv⟩
  have hkl := hkn.len
  have hcf := hcur.few
  by_cases hlt : i < g.l.length
  · obtain ⟨a, ha⟩ : ∃ a, g.base = some a := base_some (j := i) hg.rows (by rw [nodeRows_length]; omega)
    have hnm := List.getElem_mem hlt
    obtain ⟨s, hs, hni⟩ := hin i g.l[i] (List.getElem?_eq_getElem hlt)
    obtain ⟨p, hp, hpe, hp1, hp2⟩ := hsi i g.l[i] (List.getElem?_eq_getElem hlt)
    have hdrop : g.l.drop i = g.l[i] :: g.l.drop (i + 1) := List.drop_eq_getElem_cons hlt
    rw [hdrop] at hv
    have hrow := nodeRows_get hlt
    have hpi := place_in hck (List.getElem?_eq_getElem hlt)
    generalize g.l[i] = n at *
    have hn := hg.each n hnm
    obtain ⟨⟨ha0, hal2, hai⟩, ⟨hb0, hbl2, hbi⟩, cnt, hcnt0, hpl⟩ := hpi
    have e1 : (check g).2.getD i [] = s := by rw [List.getD_eq_getElem?_getD, hs]; rfl
    rw [e1] at hcnt0 hpl
    have hti : ((check g).2.take i).length = i := by rw [List.length_take, hcl]; omega
    have hform := hni.form
    rw [hti] at hform
    have hkml : (kn.map IntsV.xs).length = i := by rw [List.length_map, hkl]
    obtain ⟨t, ht, hts⟩ : ∃ t, sv.l[n.a.toNat]? = some t ∧ t.xs = (check g).2.getD n.a.toNat [] := by
      have hlt2 : n.a.toNat < sv.l.length := by omega
      refine ⟨sv.l[n.a.toNat], List.getElem?_eq_getElem hlt2, ?_⟩
      rw [← hm, List.getD_eq_getElem?_getD, List.getElem?_map, List.getElem?_eq_getElem hlt2]; rfl
    have htm : t ∈ sv.l := List.mem_of_getElem? ht
    rw [← hts] at hpl
    obtain ⟨u, hu, hus⟩ : ∃ u, sv.l[i]? = some u ∧ u.xs = s := by
      have hs' := hs
      rw [← hm, List.getElem?_map] at hs'
      cases hu : sv.l[i]? with
      | none => rw [hu] at hs'; simp at hs'
      | some u => rw [hu] at hs'; exact ⟨u, rfl, by simpa using hs'⟩
    have hcnt : entries u.xs = cnt := by rw [hus]; exact hcnt0
    have hcb := (entries_bd u.xs).2
    have hat : ∀ w', sv.ok w' → Calls Try.prog 75 #[n.valA, sv.val, .int .i64 i] w' (fun e w'' => e = .returned (placeV n (inA n t) (fnA n t cnt) cnt) ∧ Ext w' w'') := fun w' h => at_all w' n sv h i u t cnt hu ht ha0 hcnt
    have hnm : n.kind ≠ 1 → ∀ w', n.ok w' → t.ok w' → ∀ a b : IntsV, a.ok w' → b.ok w' → (∀ x ∈ a.xs, bd20 x) → (∀ x ∈ b.xs, bd20 x) → NumIn n ((check g).2.take i) a.xs b.xs → Calls Try.prog 80 #[placeV n (inA n t) (fnA n t cnt) cnt, a.val, b.val] w' (NewInts w' (numsA n cnt t.xs a.xs b.xs)) := fun hk1 w' h1 h2 a b h3 h4 h5 h6 h7 => nums_all w' n _ s t cnt hpl hk1 h1 h2 a b h3 h4 h5 h6 h7
    obtain ⟨ib, il, ic, hinv⟩ := inA_slice n t
    have hfn := fnA_func n t cnt
    rw [hinv] at hat hnm
    by_cases hk1 : n.kind = 1
    · have hf0 : fnA n t cnt = .nilFunc := if_neg (by unfold isLin; omega)
      rw [hf0] at hat
      obtain ⟨cb, cc, cl⟩ := cur
      cases cl with
      | nil =>
        have hv1 : valsQ (check g).2 (n :: g.l.drop (i + 1)) (kn.map IntsV.xs) [] = (12, []) := by
          conv => lhs; unfold valsQ
          rw [if_neg (fun h => h hk1)]
        have hv2 : valsH g (iv.l.map IntsV.xs) = (12, []) := by rw [← hv]; exact hv1
        (repeat' ((conv => whnf) <;> first | (show @cmpK _ _ _; (refine cmp_yes rfl ?_)) | (show idxK _ _ _ _ _; (refine idx_of a i ha rfl hlt ?_)) | (show roAggK _ _ _ _; (refine roAgg_row (fun R w' h => by rw [← ha]; exact rows_base h.1.1 hg.rows) _ hrow rfl ?_)) | (show callK _ 75 _ _ _ _ _; (refine call_pure (f := 75) Try.call75 _ (fun ρ w' hw => hat w' (holds_of_abs hw fun R h => shapes_okI hsv (by omega) h.1.2)) ?_)) | (show drawK _ 11 _ _ _ _ _ _; (refine draw_tree tabOk mixed [15] _ (.take 0 (.take 1 (.take 2 (.take 3 (.take 4 (.take 5 (.take 6 (.take 7 (.take 8 (.take 9 (.take 10 (.take 11 (.take 12 (.one 13 (.take 14 (.one 15 (.done))))))))))))))))) (by kernel_rfl) (by kernel_rfl) (by kernel_rfl) (List.Sublist.refl _) ?_)) | (show drawK _ 12 _ _ _ _ _ _; (refine draw_quiet tabOk mixed (by kernel_rfl) ?_)) | (show drawK _ 14 _ _ _ _ _ _; (refine draw_tree tabOk mixed [9] _ (.take 0 (.take 1 (.take 2 (.take 3 (.take 4 (.alt 5 (.take 8 (.alt 6 (.alt 7 (.one 9 (.one 10 (.done))) (.one 9 (.one 7 (.one 10 (.done))))) (.one 9 (.one 6 (.one 7 (.one 10 (.done))))))) (.one 6 (.alt 5 (.take 8 (.alt 7 (.one 9 (.one 10 (.done))) (.one 9 (.one 7 (.one 10 (.done)))))) (.one 7 (.one 5 (.take 8 (.one 9 (.one 10 (.done)))))))))))))) (by kernel_rfl) (by kernel_rfl) (by kernel_rfl) (List.Sublist.refl _) ?_)) | (show Wp _ _ _ _ _ _ _; (refine Wp.go tabOk rfl ?_)) | (show @cmpK _ _ _; (first | refine cmp_yes (by omega) ?_ | refine cmp_no (by omega) ?_ | (refine cmp_both ?_ ?_ <;> intro _))) | (show wrapK _ _ _; (refine wrap_i64 (by omega) (by omega) ?_)) | (show leK _ _ _; (refine le_of (by first | exact Nat.le_refl _ | omega) ?_)) | (show roomK _ _ _; (refine room_of (by first | omega | (dsimp only; omega)) ?_)) | (show ltK _ _ _; (refine lt_of (by omega) ?_)) | (show _ ∧ _; (refine ⟨?_, ?_⟩)) | (show keepK _ _ _ _ _; (refine keep_of (by first | exact List.Sublist.refl _ | exact List.Sublist.cons _ (List.Sublist.refl _) | exact List.Sublist.cons _ (List.Sublist.cons _ (List.Sublist.refl _)) | exact List.Sublist.cons _ (List.Sublist.cons _ (List.Sublist.cons _ (List.Sublist.refl _)))) (by first | exact (fun _ _ h => h) | exact (fun _ _ h => h.1) | exact (fun _ _ h => h.1.1)) ?_)) | (show ownK _ _ _ _ _; (refine own_keep ?_))))
        all_goals (conv => whnf)
        all_goals exact run_bad12 (fun _ _ h => h.1.1) rfl hv2 (fun _ => rfl)
      | cons x xs =>
        obtain ⟨ca, hca⟩ : ∃ a, cb = some a := base_some (j := 0) hcur.rows (by show 0 < (shRows (x :: xs)).length; rw [shRows_length]; exact Nat.succ_pos _)
        subst hca
        have hxok : x.ok w := hcur.each x List.mem_cons_self
        have hcs : entries s = cnt := by rw [← hus]; exact hcnt
        have hroom := hcur.room
        have hxl : xs.length + 1 ≤ cc := hroom
        have hne0 : ¬ ((({ base := some ca, cap := cc, l := x :: xs } : ShapesV).l.length : Nat) : Int) = 0 := by show ¬ ((xs.length + 1 : Nat) : Int) = 0; omega
        have hpos : 1 ≤ cnt := by
          have hso := hni.shape
          unfold shapeO at hso
          rw [if_pos (.inl hk1), Option.some.injEq] at hso
          have := (formed_of hform).own (.inl hk1)
          rw [hso] at this
          omega
        by_cases hbad : (x.xs.length : Int) ≠ entries s ∨ foldI min x.xs < n.lo ∨ n.hi < foldI max x.xs
        · have hv1 : valsQ (check g).2 (n :: g.l.drop (i + 1)) (kn.map IntsV.xs) (x.xs :: xs.map IntsV.xs) = (12, []) := by
            conv => lhs; unfold valsQ
            rw [if_neg (fun h => h hk1)]
            simp only
            rw [hkml, e1, if_pos hbad]
          have hv2 : valsH g (iv.l.map IntsV.xs) = (12, []) := by rw [← hv]; exact hv1
          rw [hcs] at hbad
          (repeat' ((conv => whnf) <;> first | (show @cmpK _ _ _; (refine cmp_no hne0 ?_)) | (show idxK _ _ _ _ _; (first | refine idx_of a i ha rfl hlt ?_ | refine idx_of ca 0 rfl rfl (by omega) ?_)) | (show roAggK _ _ _ _; (refine roAgg_row (fun R w' h => by rw [← ha]; exact rows_base h.1.1 hg.rows) _ hrow rfl ?_)) | (show roK _ _ _; (refine ro_row0 (fun R w' h => rows_base h.1.1 hcur.rows) _ _ (j := 0) rfl rfl ?_)) | (show idxRowK _ _ _ _ _ _; (refine idxRow_of i rfl hlt (by rw [shRows_length, gridK_length (by omega)]; exact Nat.le_refl _) ?_)) | (show callK _ 75 _ _ _ _ _; (refine call_pure (f := 75) Try.call75 _ (fun ρ w' hw => hat w' (holds_of_abs hw fun R h => shapes_okI hsv (by omega) h.1.2)) ?_)) | (show callQ _ 77 _ _ _ _ _; (refine callQ_of (f := 77) Try.call77 (.int .i64 (foldI min x.xs)) (fun ρ w' hw => min_any w' x (holds_of_abs hw fun R h => hxok.later h.1.1) (by omega)) ?_)) | (show callQ _ 78 _ _ _ _ _; (refine callQ_of (f := 78) Try.call78 (.int .i64 (foldI max x.xs)) (fun ρ w' hw => max_any w' x (holds_of_abs hw fun R h => hxok.later h.1.1) (by omega)) ?_)) | (show drawK _ 11 _ _ _ _ _ _; (refine draw_tree tabOk mixed [15] _ (.take 0 (.take 1 (.take 2 (.take 3 (.take 4 (.take 5 (.take 6 (.take 7 (.take 8 (.take 9 (.take 10 (.take 11 (.take 12 (.one 13 (.take 14 (.one 15 (.done))))))))))))))))) (by kernel_rfl) (by kernel_rfl) (by kernel_rfl) (List.Sublist.refl _) ?_)) | (show drawK _ 12 _ _ _ _ _ _; (refine draw_quiet tabOk mixed (by kernel_rfl) ?_)) | (show drawK _ 14 _ _ _ _ _ _; (refine draw_tree tabOk mixed [9] _ (.take 0 (.take 1 (.take 2 (.take 3 (.take 4 (.alt 5 (.take 8 (.alt 6 (.alt 7 (.one 9 (.one 10 (.done))) (.one 9 (.one 7 (.one 10 (.done))))) (.one 9 (.one 6 (.one 7 (.one 10 (.done))))))) (.one 6 (.alt 5 (.take 8 (.alt 7 (.one 9 (.one 10 (.done))) (.one 9 (.one 7 (.one 10 (.done)))))) (.one 7 (.one 5 (.take 8 (.one 9 (.one 10 (.done)))))))))))))) (by kernel_rfl) (by kernel_rfl) (by kernel_rfl) (List.Sublist.refl _) ?_)) | (show Wp _ _ _ _ _ _ _; (refine Wp.go tabOk rfl ?_)) | (show @cmpK _ _ _; (first | refine cmp_yes (by omega) ?_ | refine cmp_no (by omega) ?_ | (refine cmp_both ?_ ?_ <;> intro _))) | (show wrapK _ _ _; (refine wrap_i64 (by omega) (by omega) ?_)) | (show leK _ _ _; (refine le_of (by first | exact Nat.le_refl _ | omega) ?_)) | (show roomK _ _ _; (refine room_of (by first | omega | (dsimp only; omega)) ?_)) | (show ltK _ _ _; (refine lt_of (by omega) ?_)) | (show _ ∧ _; (refine ⟨?_, ?_⟩)) | (show keepK _ _ _ _ _; (refine keep_of (by first | exact List.Sublist.refl _ | exact List.Sublist.cons _ (List.Sublist.refl _) | exact List.Sublist.cons _ (List.Sublist.cons _ (List.Sublist.refl _)) | exact List.Sublist.cons _ (List.Sublist.cons _ (List.Sublist.cons _ (List.Sublist.refl _)))) (by first | exact (fun _ _ h => h) | exact (fun _ _ h => h.1) | exact (fun _ _ h => h.1.1)) ?_)) | (show ownK _ _ _ _ _; (refine own_keep ?_))))
          all_goals (conv => whnf)
          all_goals first | (exfalso; omega) | exact run_bad12 (fun _ _ h => h.1.1) rfl hv2 (fun _ => rfl)
        · have hv1 : valsQ (check g).2 (n :: g.l.drop (i + 1)) (kn.map IntsV.xs) (x.xs :: xs.map IntsV.xs) = valsQ (check g).2 (g.l.drop (i + 1)) (kn.map IntsV.xs ++ [x.xs]) (xs.map IntsV.xs) := by
            conv => lhs; unfold valsQ
            rw [if_neg (fun h => h hk1)]
            simp only
            rw [hkml, e1, if_neg hbad]
          have hv2 := hv1.symm.trans hv
          rw [hcs] at hbad
          have hwi : within p x.xs := by
            rw [hpe]
            have hL : endsAt (check g).2 n ((spansH g).2.take i) = [n.lo, n.hi] := by
              unfold endsAt endsA
              rw [if_neg (by unfold isLin; omega)]
              exact if_pos hk1
            unfold spanAt spanE
            rw [hL]
            intro z hz
            have m1 : foldI min [n.lo, n.hi] = min n.lo n.hi := rfl
            have m2 : foldI max [n.lo, n.hi] = max n.lo n.hi := rfl
            have := foldI_min_le hz
            have := foldI_max_ge hz
            simp only [m1, m2]
            omega
          (repeat' ((conv => whnf) <;> first | (show @cmpK _ _ _; (refine cmp_no hne0 ?_)) | (show idxK _ _ _ _ _; (first | refine idx_of a i ha rfl hlt ?_ | refine idx_of ca 0 rfl rfl (by omega) ?_)) | (show roAggK _ _ _ _; (refine roAgg_row (fun R w' h => by rw [← ha]; exact rows_base h.1.1 hg.rows) _ hrow rfl ?_)) | (show roK _ _ _; (refine ro_row0 (fun R w' h => rows_base h.1.1 hcur.rows) _ _ (j := 0) rfl rfl ?_)) | (show idxRowK _ _ _ _ _ _; (refine idxRow_of i rfl hlt (by rw [shRows_length, gridK_length (by omega)]; exact Nat.le_refl _) ?_)) | (show callK _ 75 _ _ _ _ _; (refine call_pure (f := 75) Try.call75 _ (fun ρ w' hw => hat w' (holds_of_abs hw fun R h => shapes_okI hsv (by omega) h.1.2)) ?_)) | (show callQ _ 77 _ _ _ _ _; (refine callQ_of (f := 77) Try.call77 (.int .i64 (foldI min x.xs)) (fun ρ w' hw => min_any w' x (holds_of_abs hw fun R h => hxok.later h.1.1) (by omega)) ?_)) | (show callQ _ 78 _ _ _ _ _; (refine callQ_of (f := 78) Try.call78 (.int .i64 (foldI max x.xs)) (fun ρ w' hw => max_any w' x (holds_of_abs hw fun R h => hxok.later h.1.1) (by omega)) ?_)) | (show drawK _ 14 _ _ _ _ _ _; (refine draw_tree tabOk mixed [] [] (.take 0 (.take 1 (.take 2 (.take 6 (.alt 3 (.alt 4 (.alt 5 (.alt 7 (.one 8 (.one 9 (.take 10 (.done)))) (.one 8 (.alt 7 (.one 9 (.take 10 (.done))) (.one 9 (.one 7 (.take 10 (.done))))))) (.one 7 (.one 5 (.one 8 (.one 9 (.take 10 (.done))))))) (.one 7 (.one 4 (.one 5 (.one 8 (.one 9 (.take 10 (.done)))))))) (.one 7 (.one 3 (.one 4 (.one 5 (.one 8 (.one 9 (.take 10 (.done))))))))))))) (by kernel_rfl) (by kernel_rfl) (by kernel_rfl) (List.nil_sublist _) ?_)) | (show keepK _ _ _ _ _; (refine keep_of (by repeat (first | exact List.Sublist.refl _ | exact List.nil_sublist _ | apply List.Sublist.cons_cons | apply List.Sublist.cons)) (by first | exact (fun _ _ h => h) | exact (fun _ _ h => h.1) | exact (fun _ _ h => h.1.1)) ?_)) | (show callK _ 45 _ _ _ _ _; (refine call_clone x.xs Try.call45 hxok.fits hxok.few (fun ρ w' hw => clone_any w' x (holds_of_abs hw fun R h => hxok.later h.1.1) (by omega)) (fun y hy hys => ?_))) | (show sliceK _ _ _ _ _ _ _ _; (refine slice_oneI (by omega) (by omega) ?_)) | (show rowStoreK _ _ _ _ _; (refine gridK_store hkl hlt ?_)) | (show drawK _ 11 _ _ _ _ _ _; (refine draw_tree tabOk mixed [15] _ (.take 0 (.take 1 (.take 2 (.take 3 (.take 4 (.take 5 (.take 6 (.take 7 (.take 8 (.take 9 (.take 10 (.take 11 (.take 12 (.one 13 (.take 14 (.one 15 (.done))))))))))))))))) (by kernel_rfl) (by kernel_rfl) (by kernel_rfl) (List.Sublist.refl _) ?_)) | (show drawK _ 12 _ _ _ _ _ _; (refine draw_quiet tabOk mixed (by kernel_rfl) ?_)) | (show Wp _ _ _ _ _ _ _; (refine Wp.go tabOk rfl ?_)) | (show @cmpK _ _ _; (first | refine cmp_yes (by omega) ?_ | refine cmp_no (by omega) ?_ | (refine cmp_both ?_ ?_ <;> intro _))) | (show wrapK _ _ _; (refine wrap_i64 (by omega) (by omega) ?_)) | (show leK _ _ _; (refine le_of (by first | exact Nat.le_refl _ | omega) ?_)) | (show roomK _ _ _; (refine room_of (by first | omega | (dsimp only; omega)) ?_)) | (show ltK _ _ _; (refine lt_of (by omega) ?_)) | (show _ ∧ _; (refine ⟨?_, ?_⟩)) | (show keepK _ _ _ _ _; (refine keep_of (by first | exact List.Sublist.refl _ | exact List.Sublist.cons _ (List.Sublist.refl _) | exact List.Sublist.cons _ (List.Sublist.cons _ (List.Sublist.refl _)) | exact List.Sublist.cons _ (List.Sublist.cons _ (List.Sublist.cons _ (List.Sublist.refl _)))) (by first | exact (fun _ _ h => h) | exact (fun _ _ h => h.1) | exact (fun _ _ h => h.1.1)) ?_)) | (show ownK _ _ _ _ _; (refine own_keep ?_))))
          all_goals (conv => whnf)
          all_goals exact ⟨(i + 1, kn ++ [y], ⟨some (if cc = 1 then ca else ca.add 1), cc - 1, xs⟩), [], ⟨hlt, known_snocH hkn hys hp hs (by rw [hy]; exact hwi) (by rw [hy, hcs]; omega), InV.rest_ok hcur rfl, by rw [List.map_append, List.map_cons, List.map_nil, hy]; exact hv2⟩, by simp only; omega, rfl, ⟨rfl, rfl, rfl, rfl, rfl, rfl, rfl, trivial⟩, ⟨(by repeat (first | exact List.mem_cons_self | apply List.mem_cons_of_mem)), (by repeat (first | exact List.mem_cons_self | apply List.mem_cons_of_mem)), trivial⟩, fun R w' h => ⟨h.1.1, eachA_snoc h.1.2 h.2⟩⟩
    · have hv1 : valsQ (check g).2 (n :: g.l.drop (i + 1)) (kn.map IntsV.xs) (cur.l.map IntsV.xs) = valsQ (check g).2 (g.l.drop (i + 1)) (kn.map IntsV.xs ++ [numsA n cnt t.xs (kn.getD n.a.toNat nilI).xs (kn.getD n.b.toNat nilI).xs]) (cur.l.map IntsV.xs) := by
        conv => lhs; unfold valsQ
        unfold numsAt
        rw [if_pos hk1, getD_xs, getD_xs, hkml, e1, hcnt0, hts]; rfl
      rw [hv1] at hv
      have hcs : entries s = cnt := by rw [← hus]; exact hcnt
      have kA := known_argH hsp hkn (by omega) n.a.toNat
      have kB := known_argH hsp hkn (by omega) n.b.toNat
      have hnum := num_inH hsp hkn (by omega) (formed_of hform)
      have hwn := nums_in hpl hk1 hnum kA.1 kB.1
      have hEq : endsAt (check g).2 n ((spansH g).2.take i) = endsA n cnt t.xs (((spansH g).2.take i).getD n.a.toNat (0, 0)) (((spansH g).2.take i).getD n.b.toNat (0, 0)) := by
        unfold endsAt
        rw [show ((spansH g).2.take i).length = i by rw [List.length_take, hsl]; omega, e1, hcnt0, hts]; rfl
      have gA := gridK_getD (n := g.l.length) (l := kn) (j := n.a.toNat) (by omega) (by omega)
      have gB := gridK_getD (n := g.l.length) (l := kn) (j := n.b.toNat) (by omega) (by omega)
      rcases hfn with hf0 | ⟨f1, f2, f3, hf0⟩
      all_goals rw [hf0] at hat hnm
      all_goals
        (repeat' ((conv => whnf) <;> first | (show idxK _ _ _ _ _; (refine idx_of a i ha rfl hlt ?_)) | (show roAggK _ _ _ _; (refine roAgg_row (fun R w' h => by rw [← ha]; exact rows_base h.1.1 hg.rows) _ hrow rfl ?_)) | (show callK _ 75 _ _ _ _ _; (refine call_pure (f := 75) Try.call75 _ (fun ρ w' hw => hat w' (holds_of_abs hw fun R h => shapes_okI hsv (by omega) h.1.2)) ?_)) | (show idxRowK _ _ _ _ _ _; (first | refine idxRow_of n.a.toNat (by omega) (by omega) (by rw [shRows_length, gridK_length (by omega)]; exact Nat.le_refl _) ?_ | refine idxRow_of n.b.toNat (by omega) (by omega) (by rw [shRows_length, gridK_length (by omega)]; exact Nat.le_refl _) ?_ | refine idxRow_of i rfl hlt (by rw [shRows_length, gridK_length (by omega)]; exact Nat.le_refl _) ?_)) | (show rowK _ _ _ _; (first | refine row_of _ _ gA rfl ?_ | refine row_of _ _ gB rfl ?_)) | (show keepK _ _ _ _ _; (refine keep_of (by repeat (first | exact List.Sublist.refl _ | exact List.nil_sublist _ | apply List.Sublist.cons_cons | apply List.Sublist.cons)) (by first | exact (fun _ _ h => h) | exact (fun _ _ h => h.1) | exact (fun _ _ h => h.1.1)) ?_)) | (show callK _ 80 _ _ _ _ _; (refine call_past Try.call80 IntsV.val intsA (fun x => x.xs = numsA n cnt t.xs (kn.getD n.a.toNat nilI).xs (kn.getD n.b.toNat nilI).xs ∧ x.sane) (fun ρ w' hw => hnm hk1 w' (holds_of_abs hw fun R h => hn.later h.1.1) (holds_of_abs hw fun R h => (shapes_okI hsv (by omega) h.1.2).each t htm) (kn.getD n.a.toNat nilI) (kn.getD n.b.toNat nilI) (holds_of_abs hw fun R h => getD_kn hkn.sane h.2 _) (holds_of_abs hw fun R h => getD_kn hkn.sane h.2 _) kA.2.1 kB.2.1 hnum) (fun x hx => ?_))) | (show rowStoreK _ _ _ _ _; (refine gridK_store hkl hlt ?_)) | (show drawK _ 11 _ _ _ _ _ _; (refine draw_tree tabOk mixed [15] _ (.take 0 (.take 1 (.take 2 (.take 3 (.take 4 (.take 5 (.take 6 (.take 7 (.take 8 (.take 9 (.take 10 (.take 11 (.take 12 (.one 13 (.take 14 (.one 15 (.done))))))))))))))))) (by kernel_rfl) (by kernel_rfl) (by kernel_rfl) (List.Sublist.refl _) ?_)) | (show drawK _ 12 _ _ _ _ _ _; (refine draw_quiet tabOk mixed (by kernel_rfl) ?_)) | (show drawK _ 14 _ _ _ _ _ _; (refine draw_tree tabOk mixed [9] _ (.take 0 (.take 1 (.take 2 (.take 3 (.take 4 (.alt 5 (.take 8 (.alt 6 (.alt 7 (.one 9 (.one 10 (.done))) (.one 9 (.one 7 (.one 10 (.done))))) (.one 9 (.one 6 (.one 7 (.one 10 (.done))))))) (.one 6 (.alt 5 (.take 8 (.alt 7 (.one 9 (.one 10 (.done))) (.one 9 (.one 7 (.one 10 (.done)))))) (.one 7 (.one 5 (.take 8 (.one 9 (.one 10 (.done)))))))))))))) (by kernel_rfl) (by kernel_rfl) (by kernel_rfl) (List.Sublist.refl _) ?_)) | (show Wp _ _ _ _ _ _ _; (refine Wp.go tabOk rfl ?_)) | (show @cmpK _ _ _; (first | refine cmp_yes (by omega) ?_ | refine cmp_no (by omega) ?_ | (refine cmp_both ?_ ?_ <;> intro _))) | (show wrapK _ _ _; (refine wrap_i64 (by omega) (by omega) ?_)) | (show leK _ _ _; (refine le_of (by first | exact Nat.le_refl _ | omega) ?_)) | (show roomK _ _ _; (refine room_of (by first | omega | (dsimp only; omega)) ?_)) | (show ltK _ _ _; (refine lt_of (by omega) ?_)) | (show _ ∧ _; (refine ⟨?_, ?_⟩)) | (show keepK _ _ _ _ _; (refine keep_of (by first | exact List.Sublist.refl _ | exact List.Sublist.cons _ (List.Sublist.refl _) | exact List.Sublist.cons _ (List.Sublist.cons _ (List.Sublist.refl _)) | exact List.Sublist.cons _ (List.Sublist.cons _ (List.Sublist.cons _ (List.Sublist.refl _)))) (by first | exact (fun _ _ h => h) | exact (fun _ _ h => h.1) | exact (fun _ _ h => h.1.1)) ?_)) | (show ownK _ _ _ _ _; (refine own_keep ?_))))
        all_goals (conv => whnf)
        all_goals exact ⟨(i + 1, kn ++ [x], cur), [], ⟨hlt, known_snocH hkn hx.2 hp hs (by rw [hx.1, hpe]; unfold spanAt; rw [hEq]; exact hwn.1) (by rw [hx.1, hcs, hwn.2]), hcur, by rw [List.map_append, List.map_cons, List.map_nil, hx.1]; exact hv⟩, by simp only; omega, rfl, ⟨rfl, rfl, rfl, rfl, rfl, rfl, rfl, trivial⟩, ⟨(by repeat (first | exact List.mem_cons_self | apply List.mem_cons_of_mem)), (by repeat (first | exact List.mem_cons_self | apply List.mem_cons_of_mem)), trivial⟩, fun R w' h => ⟨h.1.1, eachA_snoc h.1.2 h.2⟩⟩
  · obtain rfl : i = g.l.length := by omega
    rw [List.drop_length] at hv
    have hgO := gridK_getD (n := g.l.length) (l := kn) (j := g.out.toNat) (by omega) (by omega)
    by_cases hrest : 0 < cur.l.length
    · have hv2 : valsH g (iv.l.map IntsV.xs) = (12, []) := by
        rw [← hv]
        conv => lhs; unfold valsQ
        rw [if_pos (by simpa using hrest)]
      (repeat' ((conv => whnf) <;> first | (show drawK _ 11 _ _ _ _ _ _; (refine draw_tree tabOk mixed [15] _ (.take 0 (.take 1 (.take 2 (.take 3 (.take 4 (.take 5 (.take 6 (.take 7 (.take 8 (.take 9 (.take 10 (.take 11 (.take 12 (.one 13 (.take 14 (.one 15 (.done))))))))))))))))) (by kernel_rfl) (by kernel_rfl) (by kernel_rfl) (List.Sublist.refl _) ?_)) | (show drawK _ 12 _ _ _ _ _ _; (refine draw_quiet tabOk mixed (by kernel_rfl) ?_)) | (show drawK _ 14 _ _ _ _ _ _; (refine draw_tree tabOk mixed [9] _ (.take 0 (.take 1 (.take 2 (.take 3 (.take 4 (.alt 5 (.take 8 (.alt 6 (.alt 7 (.one 9 (.one 10 (.done))) (.one 9 (.one 7 (.one 10 (.done))))) (.one 9 (.one 6 (.one 7 (.one 10 (.done))))))) (.one 6 (.alt 5 (.take 8 (.alt 7 (.one 9 (.one 10 (.done))) (.one 9 (.one 7 (.one 10 (.done)))))) (.one 7 (.one 5 (.take 8 (.one 9 (.one 10 (.done)))))))))))))) (by kernel_rfl) (by kernel_rfl) (by kernel_rfl) (List.Sublist.refl _) ?_)) | (show Wp _ _ _ _ _ _ _; (refine Wp.go tabOk rfl ?_)) | (show @cmpK _ _ _; (first | refine cmp_yes (by omega) ?_ | refine cmp_no (by omega) ?_ | (refine cmp_both ?_ ?_ <;> intro _))) | (show wrapK _ _ _; (refine wrap_i64 (by omega) (by omega) ?_)) | (show leK _ _ _; (refine le_of (by first | exact Nat.le_refl _ | omega) ?_)) | (show roomK _ _ _; (refine room_of (by first | omega | (dsimp only; omega)) ?_)) | (show ltK _ _ _; (refine lt_of (by omega) ?_)) | (show _ ∧ _; (refine ⟨?_, ?_⟩)) | (show keepK _ _ _ _ _; (refine keep_of (by first | exact List.Sublist.refl _ | exact List.Sublist.cons _ (List.Sublist.refl _) | exact List.Sublist.cons _ (List.Sublist.cons _ (List.Sublist.refl _)) | exact List.Sublist.cons _ (List.Sublist.cons _ (List.Sublist.cons _ (List.Sublist.refl _)))) (by first | exact (fun _ _ h => h) | exact (fun _ _ h => h.1) | exact (fun _ _ h => h.1.1)) ?_)) | (show ownK _ _ _ _ _; (refine own_keep ?_))))
      conv => whnf
      exact run_bad12 (fun _ _ h => h.1.1) rfl hv2 (fun _ => rfl)
    · have hv2 : valsH g (iv.l.map IntsV.xs) = (0, kn.map IntsV.xs) := by
        rw [← hv]
        conv => lhs; unfold valsQ
        rw [if_neg (by simpa using hrest)]
      (repeat' ((conv => whnf) <;> first | (show idxRowK _ _ _ _ _ _; (refine idxRow_of g.out.toNat (by omega) (by omega) (by rw [shRows_length, gridK_length (by omega)]; exact Nat.le_refl _) ?_)) | (show rowK _ _ _ _; (refine row_of _ _ hgO rfl ?_)) | (show drawK _ 11 _ _ _ _ _ _; (refine draw_tree tabOk mixed [15] _ (.take 0 (.take 1 (.take 2 (.take 3 (.take 4 (.take 5 (.take 6 (.take 7 (.take 8 (.take 9 (.take 10 (.take 11 (.take 12 (.one 13 (.take 14 (.one 15 (.done))))))))))))))))) (by kernel_rfl) (by kernel_rfl) (by kernel_rfl) (List.Sublist.refl _) ?_)) | (show drawK _ 12 _ _ _ _ _ _; (refine draw_quiet tabOk mixed (by kernel_rfl) ?_)) | (show drawK _ 14 _ _ _ _ _ _; (refine draw_tree tabOk mixed [9] _ (.take 0 (.take 1 (.take 2 (.take 3 (.take 4 (.alt 5 (.take 8 (.alt 6 (.alt 7 (.one 9 (.one 10 (.done))) (.one 9 (.one 7 (.one 10 (.done))))) (.one 9 (.one 6 (.one 7 (.one 10 (.done))))))) (.one 6 (.alt 5 (.take 8 (.alt 7 (.one 9 (.one 10 (.done))) (.one 9 (.one 7 (.one 10 (.done)))))) (.one 7 (.one 5 (.take 8 (.one 9 (.one 10 (.done)))))))))))))) (by kernel_rfl) (by kernel_rfl) (by kernel_rfl) (List.Sublist.refl _) ?_)) | (show Wp _ _ _ _ _ _ _; (refine Wp.go tabOk rfl ?_)) | (show @cmpK _ _ _; (first | refine cmp_yes (by omega) ?_ | refine cmp_no (by omega) ?_ | (refine cmp_both ?_ ?_ <;> intro _))) | (show wrapK _ _ _; (refine wrap_i64 (by omega) (by omega) ?_)) | (show leK _ _ _; (refine le_of (by first | exact Nat.le_refl _ | omega) ?_)) | (show roomK _ _ _; (refine room_of (by first | omega | (dsimp only; omega)) ?_)) | (show ltK _ _ _; (refine lt_of (by omega) ?_)) | (show _ ∧ _; (refine ⟨?_, ?_⟩)) | (show keepK _ _ _ _ _; (refine keep_of (by first | exact List.Sublist.refl _ | exact List.Sublist.cons _ (List.Sublist.refl _) | exact List.Sublist.cons _ (List.Sublist.cons _ (List.Sublist.refl _)) | exact List.Sublist.cons _ (List.Sublist.cons _ (List.Sublist.cons _ (List.Sublist.refl _)))) (by first | exact (fun _ _ h => h) | exact (fun _ _ h => h.1) | exact (fun _ _ h => h.1.1)) ?_)) | (show ownK _ _ _ _ _; (refine own_keep ?_))))
      conv => whnf
      have hko : g.out.toNat < kn.length := by omega
      have hge : kn.getD g.out.toNat nilI = kn[g.out.toNat] := by rw [List.getD_eq_getElem?_getD, List.getElem?_eq_getElem hko]; rfl
      exact run_good0 (fun _ _ h => h.1.1) rfl (by rw [hge]; exact hkn.sane _ (List.getElem_mem hko)) hv2 (getD_xs _ _).symm (fun R w' h => by rw [hge]; exact h.2 _ (List.getElem_mem hko))
end Go.Proofs.Ytajbngkcgbehlaa
/- IJ -/
namespace Go.Proofs.Ytajbngkcgbehlaa
open Go.SX Go.RowKit
theorem freeze_intsI {w0 : World} {i n : Nat} (xs : List Int) {R0 : List (List Value)} {T : TypeId} {H : Heap} {S : Asn} {nx : Nat} {K : SV → Heap → Asn → Nat → Prop} (hN : ∀ R w, S.holds R w → (baseA w0).holds R w) (he : R0 = ints xs) (hn : n = xs.length) (hf : ∀ x ∈ xs, i64 x) (hl : xs.length ≤ 1000000) (h : ∀ u : IntsV, u.xs = xs → u.sane → K (.c u.val) H (S.and ((intsA u).past w0.heap.size)) nx) : ownK (.os i n) ((i, .rows R0 1 T) :: H) S nx K := by
  subst he hn
  exact own_freeze w0.heap.size (fun R w hS b hb => (hN R w hS b hb).1) (fun l hc => h ⟨l.base, l.cap, xs⟩ rfl ⟨hf, by simpa [ints_length] using hc, hl⟩)
theorem freeze_nodesI {w0 : World} {i n : Nat} (l : List NodeV) {R0 : List (List Value)} {T : TypeId} {H : Heap} {S : Asn} {nx : Nat} {K : SV → Heap → Asn → Nat → Prop} (hN : ∀ R w, S.holds R w → (baseA w0).holds R w) (he : R0 = nodeRows l) (hn : n = l.length) (h : ∀ base cap, K (.c (.slice base l.length cap)) H (S.and ((rowsA base 9 (nodeRows l)).past w0.heap.size)) nx) : ownK (.os i n) ((i, .rows R0 9 T) :: H) S nx K := by
  subst he hn
  exact own_freeze w0.heap.size (fun R w hS b hb => (hN R w hS b hb).1) (fun lc _ => h lc.base lc.cap)
theorem freeze_slicesI {w0 : World} {i n : Nat} (l : List IntsV) {R0 : List (List Value)} {T : TypeId} {H : Heap} {S : Asn} {nx : Nat} {K : SV → Heap → Asn → Nat → Prop} (hN : ∀ R w, S.holds R w → (baseA w0).holds R w) (he : R0 = shRows l) (hn : n = l.length) (h : ∀ base cap, l.length ≤ cap → K (.c (.slice base l.length cap)) H (S.and ((rowsA base 1 (shRows l)).past w0.heap.size)) nx) : ownK (.os i n) ((i, .rows R0 1 T) :: H) S nx K := by
  subst he hn
  exact own_freeze w0.heap.size (fun R w hS b hb => (hN R w hS b hb).1) (fun lc hc => h lc.base lc.cap (by simpa [shRows_length] using hc))
theorem few_i64 {xs : List Int} (h : (xs.all fun x => decide (-1000000 ≤ x ∧ x ≤ 1000000)) = true) : ∀ x ∈ xs, i64 x := fun x hx => by
  have := of_decide_eq_true (List.all_eq_true.1 h x hx)
  unfold i64; omega
theorem few_bd {xs : List Int} (h : (xs.all fun x => decide (-1000000 ≤ x ∧ x ≤ 1000000)) = true) : ∀ x ∈ xs, bd20 x := fun x hx => by
  have := of_decide_eq_true (List.all_eq_true.1 h x hx)
  unfold bd20; omega
/-- a call of Run -/
theorem call_run {cx : Cx} {f : FuncId} {args : List SV} {H : Heap} {S : Asn} {nx : Nat} {K : SV → Heap → Asn → Nat → Prop} (r : Int × List Int) (hf : ∀ ar w, (callFunc f ar).run cx.P w = .ok (.enter f ar) w)
    (hc : ∀ ρ w', Abs cx.B ρ nx H S w' → Calls cx.P f (SV.rfs ρ args).toArray w' (RunPost w' r))
    (h0 : r.1 ≠ 0 → K (.c (.tuple #[.slice none 0 0, .int .i64 r.1])) H S nx)
    (h1 : r.1 = 0 → ∀ x : IntsV, x.xs = r.2 → x.sane → K (.c (.tuple #[x.val, .int .i64 0])) H (S.and ((intsA x).past cx.B.w0.heap.size)) nx) : callK cx f args H S nx K := by
  rw [callK_def]
  refine ⟨hf, fun ρ w hw => (hc ρ w hw).mono ?_⟩
  rintro e w' (⟨hr, rfl, he⟩ | ⟨hr, x, ⟨hx1, hx2⟩, rfl, he, hD⟩)
  · exact ⟨.c (.tuple #[.slice none 0 0, .int .i64 r.1]), ρ, H, S, nx, rfl, fun _ _ => rfl, Nat.le_refl _, SV.lt_c _, hw.ext he, h0 hr⟩
  · exact ⟨.c (.tuple #[x.val, .int .i64 0]), ρ, H, _, nx, rfl, fun _ _ => rfl, Nat.le_refl _, SV.lt_c _, hw.grow he hD, h1 hr x hx1 hx2⟩
theorem spansQ_R {sh : List (List Int)} : ∀ {l : List NodeV} {acc : List Sp}, (∀ n ∈ l, nlin n) → spansQ sh l acc = spansR l acc
  | [], acc, _ => rfl
  | n :: r, acc, h => by
    have hn := h n List.mem_cons_self
    have e : endsAt sh n acc = endsL n (acc.getD n.a.toNat (0, 0)) (acc.getD n.b.toNat (0, 0)) := by
      unfold endsAt endsA
      rw [if_neg (by unfold isLin; unfold nlin at hn; omega)]
    unfold spansQ spansR
    rw [e, spansQ_R (fun m hm => h m (List.mem_cons_of_mem _ hm))]
theorem spansH_G {g : GraphV} (h : ∀ n ∈ g.l, nlin n) : spansH g = spansG g := by
  unfold spansH spansG
  rw [spansQ_R h]
theorem valsQ_R {sh : List (List Int)} : ∀ {l : List NodeV} {known inp : List (List Int)}, (∀ n ∈ l, nlin n) → known.length + l.length ≤ sh.length → valsQ sh l known inp = valsR l (sh.drop known.length) known inp
  | [], known, inp, _, _ => by unfold valsQ valsR; rfl
  | n :: r, known, inp, h, hl => by
    rw [List.length_cons] at hl
    have hn := h n List.mem_cons_self
    have hlt : known.length < sh.length := by omega
    have ed : sh.drop known.length = sh[known.length] :: sh.drop (known.length + 1) := List.drop_eq_getElem_cons hlt
    have eg : sh.getD known.length [] = sh[known.length] := by rw [List.getD_eq_getElem?_getD, List.getElem?_eq_getElem hlt]; rfl
    have e : numsAt sh n known = numsL n (entries sh[known.length]).toNat (known.getD n.a.toNat []) (known.getD n.b.toNat []) := by
      unfold numsAt numsA
      rw [if_neg (by unfold isLin; unfold nlin at hn; omega), eg]
    have ih := fun kn inp' => valsQ_R (sh := sh) (l := r) (known := known ++ [kn]) (inp := inp') (fun m hm => h m (List.mem_cons_of_mem _ hm)) (by rw [List.length_append, List.length_singleton]; omega)
    simp only [List.length_append, List.length_singleton] at ih
    rw [ed]
    unfold valsQ valsR
    rw [e, eg]
    split
    · exact ih _ _
    · cases inp with
      | nil => rfl
      | cons x xs =>
        simp only
        split
        · rfl
        · exact ih _ _
theorem runH_G {g : GraphV} (h : ∀ n ∈ g.l, nlin n) (inp : List (List Int)) : runH g inp = runG g inp := by
  unfold runH runG
  rw [spansH_G h]
  by_cases hs : (spansG g).1 ≠ 0
  · rw [if_pos hs, if_pos hs]
  · rw [if_neg hs, if_neg hs]
    have hck : (check g).1 = 0 := by
      unfold spansG at hs
      by_cases hc : (check g).1 ≠ 0
      · rw [if_pos hc] at hs; exact absurd hc hs
      · omega
    have hcl := (check_in hck).2.2.2.1
    have : valsH g inp = valsG g inp := valsQ_R h (by simp; omega)
    rw [this]
theorem run_f {nb : Option Addr} {nc : Nat} {u v : IntsV} (hu : u.xs = [1]) (hv : v.xs = [1, 0, 1]) : spansG (g2 nb nc u v (-2) 3) = (0, [(-2, 3), (1, 10)]) ∧ runG (g2 nb nc u v (-2) 3) [[-2]] = (0, [5]) := by
  have hc := check_g2 (nb := nb) (nc := nc) (u := u) (v := v) (lo := -2) (hi := 3) hu (by rw [hv]; rfl) (by rw [hv]; exact few_bd rfl) ⟨by decide, by decide⟩ ⟨by decide, by decide⟩ (by decide)
  have hs := spans_g2 hc ⟨by decide, by decide⟩ ⟨by decide, by decide⟩ (by decide)
  have hs2 : spansG (g2 nb nc u v (-2) 3) = (0, [(-2, 3), (1, 10)]) := by rw [hs, hv]; rfl
  refine ⟨hs2, ?_⟩
  unfold runG valsG
  rw [hs2, hc]
  have hv1 : valsR (g2 nb nc u v (-2) 3).l [[1], [1]] [] [[-2]] = (0, [[-2], [5]]) := by
    show valsR [inN u (-2) 3, powN v] [[1], [1]] [] [[-2]] = _
    unfold valsR
    rw [if_neg (by simp [inN])]
    simp only
    rw [if_neg (by rw [ent1]; simp [inN, foldI])]
    unfold valsR
    rw [if_pos (by simp [powN])]
    unfold valsR
    rw [ent1]
    have : numsL (powN v) (1 : Int).toNat (([] ++ [[-2]] : List (List Int)).getD (powN v).a.toNat []) (([] ++ [[-2]] : List (List Int)).getD (powN v).b.toNat []) = [5] := by
      show [numAt (powN v) [-2] [-2] 0] = [5]
      have : numAt (powN v) [-2] [-2] 0 = powI v.xs (-2) := rfl
      rw [this, hv]; rfl
    rw [this]; rfl
  rw [hv1]; rfl
set_option maxRecDepth 20000 in
set_option maxHeartbeats 1000000 in
theorem fixed17_any (w : World) : Calls Try.prog 33 #[] w fun e w' => e = .returned (.bool true) ∧ Ext w w' := by
  refine calls_of tab tabOk Try.func33 rfl rfl rfl [] (fun _ => ⟨none, 0⟩) [] [] (baseA w) 0 rfl rfl (by show 0 ≤ _; decide) (abs_base w) ?_
  (repeat' ((conv => whnf) <;> first | (show Wp _ _ _ _ _ _ _; (refine Wp.go tabOk rfl ?_)) | (show @cmpK _ _ _; (first | refine cmp_yes (by omega) ?_ | refine cmp_no (by omega) ?_ | (refine cmp_both ?_ ?_ <;> intro _))) | (show wrapK _ _ _; (refine wrap_i64 (by omega) (by omega) ?_)) | (show leK _ _ _; (refine le_of (by first | exact Nat.le_refl _ | omega) ?_)) | (show roomK _ _ _; (refine room_of (by first | omega | (dsimp only; omega)) ?_)) | (show ltK _ _ _; (refine lt_of (by omega) ?_)) | (show _ ∧ _; (refine ⟨?_, ?_⟩)) | (show keepK _ _ _ _ _; (refine keep_of (by first | exact List.Sublist.refl _ | exact List.Sublist.cons _ (List.Sublist.refl _) | exact List.Sublist.cons _ (List.Sublist.cons _ (List.Sublist.refl _)) | exact List.Sublist.cons _ (List.Sublist.cons _ (List.Sublist.cons _ (List.Sublist.refl _)))) (by first | exact (fun _ _ h => h) | exact (fun _ _ h => h.1) | exact (fun _ _ h => h.1.1)) ?_))))
  refine freeze_intsI (w0 := w) [1] (fun R w' h => h) rfl rfl (few_i64 rfl) (by decide) (fun u hu hus => ?_)
  (repeat' ((conv => whnf) <;> first | (show Wp _ _ _ _ _ _ _; (refine Wp.go tabOk rfl ?_)) | (show @cmpK _ _ _; (first | refine cmp_yes (by omega) ?_ | refine cmp_no (by omega) ?_ | (refine cmp_both ?_ ?_ <;> intro _))) | (show wrapK _ _ _; (refine wrap_i64 (by omega) (by omega) ?_)) | (show leK _ _ _; (refine le_of (by first | exact Nat.le_refl _ | omega) ?_)) | (show roomK _ _ _; (refine room_of (by first | omega | (dsimp only; omega)) ?_)) | (show ltK _ _ _; (refine lt_of (by omega) ?_)) | (show _ ∧ _; (refine ⟨?_, ?_⟩)) | (show keepK _ _ _ _ _; (refine keep_of (by first | exact List.Sublist.refl _ | exact List.Sublist.cons _ (List.Sublist.refl _) | exact List.Sublist.cons _ (List.Sublist.cons _ (List.Sublist.refl _)) | exact List.Sublist.cons _ (List.Sublist.cons _ (List.Sublist.cons _ (List.Sublist.refl _)))) (by first | exact (fun _ _ h => h) | exact (fun _ _ h => h.1) | exact (fun _ _ h => h.1.1)) ?_))))
  refine freeze_intsI (w0 := w) [1, 0, 1] (fun R w' h => h.1) rfl rfl (few_i64 rfl) (by decide) (fun v hv hvs => ?_)
  (repeat' ((conv => whnf) <;> first | (show Wp _ _ _ _ _ _ _; (refine Wp.go tabOk rfl ?_)) | (show @cmpK _ _ _; (first | refine cmp_yes (by omega) ?_ | refine cmp_no (by omega) ?_ | (refine cmp_both ?_ ?_ <;> intro _))) | (show wrapK _ _ _; (refine wrap_i64 (by omega) (by omega) ?_)) | (show leK _ _ _; (refine le_of (by first | exact Nat.le_refl _ | omega) ?_)) | (show roomK _ _ _; (refine room_of (by first | omega | (dsimp only; omega)) ?_)) | (show ltK _ _ _; (refine lt_of (by omega) ?_)) | (show _ ∧ _; (refine ⟨?_, ?_⟩)) | (show keepK _ _ _ _ _; (refine keep_of (by first | exact List.Sublist.refl _ | exact List.Sublist.cons _ (List.Sublist.refl _) | exact List.Sublist.cons _ (List.Sublist.cons _ (List.Sublist.refl _)) | exact List.Sublist.cons _ (List.Sublist.cons _ (List.Sublist.cons _ (List.Sublist.refl _)))) (by first | exact (fun _ _ h => h) | exact (fun _ _ h => h.1) | exact (fun _ _ h => h.1.1)) ?_))))
  refine freeze_nodesI (w0 := w) [inN u (-2) 3, powN v] (fun R w' h => h.1.1) rfl rfl (fun nb nc => ?_)
  obtain ⟨hS, hR⟩ := run_f (nb := nb) (nc := nc) hu hv
  have hgok : ∀ {R : Nat → Prop} {w' : World}, (((baseA w).and ((intsA u).past w.heap.size)).and ((intsA v).past w.heap.size)).and ((rowsA nb 9 (nodeRows [inN u (-2) 3, powN v])).past w.heap.size) |>.holds R w' → (g2 nb nc u v (-2) 3).ok w' := fun h => g2_ok (rowsA_in h.2) (intsA_ok hus h.1.1.2) (intsA_ok hvs h.1.2) (by rw [hu]; decide) (by rw [hv]; decide) ⟨by decide, by decide⟩ ⟨by decide, by decide⟩
  (repeat' ((conv => whnf) <;> first | (show Wp _ _ _ _ _ _ _; (refine Wp.go tabOk rfl ?_)) | (show @cmpK _ _ _; (first | refine cmp_yes (by omega) ?_ | refine cmp_no (by omega) ?_ | (refine cmp_both ?_ ?_ <;> intro _))) | (show wrapK _ _ _; (refine wrap_i64 (by omega) (by omega) ?_)) | (show leK _ _ _; (refine le_of (by first | exact Nat.le_refl _ | omega) ?_)) | (show roomK _ _ _; (refine room_of (by first | omega | (dsimp only; omega)) ?_)) | (show ltK _ _ _; (refine lt_of (by omega) ?_)) | (show _ ∧ _; (refine ⟨?_, ?_⟩)) | (show keepK _ _ _ _ _; (refine keep_of (by first | exact List.Sublist.refl _ | exact List.Sublist.cons _ (List.Sublist.refl _) | exact List.Sublist.cons _ (List.Sublist.cons _ (List.Sublist.refl _)) | exact List.Sublist.cons _ (List.Sublist.cons _ (List.Sublist.cons _ (List.Sublist.refl _)))) (by first | exact (fun _ _ h => h) | exact (fun _ _ h => h.1) | exact (fun _ _ h => h.1.1)) ?_))))
  refine call_spans (f := 34) (0, [(-2, 3), (1, 10)]) Try.call34 (fun ρ w' hw => by have := spans_all w' (g2 nb nc u v (-2) 3) (holds_of_abs hw fun R h => hgok h); rw [spansH_G g2_nlin, hS] at this; exact this) (fun hne => absurd rfl hne) (fun _ sb sc => ?_)
  (repeat' ((conv => whnf) <;> first | (show Wp _ _ _ _ _ _ _; (refine Wp.go tabOk rfl ?_)) | (show @cmpK _ _ _; (first | refine cmp_yes (by omega) ?_ | refine cmp_no (by omega) ?_ | (refine cmp_both ?_ ?_ <;> intro _))) | (show wrapK _ _ _; (refine wrap_i64 (by omega) (by omega) ?_)) | (show leK _ _ _; (refine le_of (by first | exact Nat.le_refl _ | omega) ?_)) | (show roomK _ _ _; (refine room_of (by first | omega | (dsimp only; omega)) ?_)) | (show ltK _ _ _; (refine lt_of (by omega) ?_)) | (show _ ∧ _; (refine ⟨?_, ?_⟩)) | (show keepK _ _ _ _ _; (refine keep_of (by first | exact List.Sublist.refl _ | exact List.Sublist.cons _ (List.Sublist.refl _) | exact List.Sublist.cons _ (List.Sublist.cons _ (List.Sublist.refl _)) | exact List.Sublist.cons _ (List.Sublist.cons _ (List.Sublist.cons _ (List.Sublist.refl _)))) (by first | exact (fun _ _ h => h) | exact (fun _ _ h => h.1) | exact (fun _ _ h => h.1.1)) ?_))))
  refine freeze_intsI (w0 := w) [-2] (fun R w' h => h.1.1.1.1) rfl rfl (few_i64 rfl) (by decide) (fun y hy hys => ?_)
  (repeat' ((conv => whnf) <;> first | (show Wp _ _ _ _ _ _ _; (refine Wp.go tabOk rfl ?_)) | (show @cmpK _ _ _; (first | refine cmp_yes (by omega) ?_ | refine cmp_no (by omega) ?_ | (refine cmp_both ?_ ?_ <;> intro _))) | (show wrapK _ _ _; (refine wrap_i64 (by omega) (by omega) ?_)) | (show leK _ _ _; (refine le_of (by first | exact Nat.le_refl _ | omega) ?_)) | (show roomK _ _ _; (refine room_of (by first | omega | (dsimp only; omega)) ?_)) | (show ltK _ _ _; (refine lt_of (by omega) ?_)) | (show _ ∧ _; (refine ⟨?_, ?_⟩)) | (show keepK _ _ _ _ _; (refine keep_of (by first | exact List.Sublist.refl _ | exact List.Sublist.cons _ (List.Sublist.refl _) | exact List.Sublist.cons _ (List.Sublist.cons _ (List.Sublist.refl _)) | exact List.Sublist.cons _ (List.Sublist.cons _ (List.Sublist.cons _ (List.Sublist.refl _)))) (by first | exact (fun _ _ h => h) | exact (fun _ _ h => h.1) | exact (fun _ _ h => h.1.1)) ?_))))
  refine freeze_slicesI (w0 := w) [y] (fun R w' h => h.1.1.1.1.1) rfl rfl (fun ib ic hic => ?_)
  (repeat' ((conv => whnf) <;> first | (show Wp _ _ _ _ _ _ _; (refine Wp.go tabOk rfl ?_)) | (show @cmpK _ _ _; (first | refine cmp_yes (by omega) ?_ | refine cmp_no (by omega) ?_ | (refine cmp_both ?_ ?_ <;> intro _))) | (show wrapK _ _ _; (refine wrap_i64 (by omega) (by omega) ?_)) | (show leK _ _ _; (refine le_of (by first | exact Nat.le_refl _ | omega) ?_)) | (show roomK _ _ _; (refine room_of (by first | omega | (dsimp only; omega)) ?_)) | (show ltK _ _ _; (refine lt_of (by omega) ?_)) | (show _ ∧ _; (refine ⟨?_, ?_⟩)) | (show keepK _ _ _ _ _; (refine keep_of (by first | exact List.Sublist.refl _ | exact List.Sublist.cons _ (List.Sublist.refl _) | exact List.Sublist.cons _ (List.Sublist.cons _ (List.Sublist.refl _)) | exact List.Sublist.cons _ (List.Sublist.cons _ (List.Sublist.cons _ (List.Sublist.refl _)))) (by first | exact (fun _ _ h => h) | exact (fun _ _ h => h.1) | exact (fun _ _ h => h.1.1)) ?_))))
  refine call_run (f := 37) (0, [5]) Try.call37 (fun ρ w' hw => by
    have hok : InV.ok w' (⟨ib, ic, [y]⟩ : ShapesV) := holds_of_abs hw fun R h => ⟨rowsA_in h.2, fun z hz => by rw [List.mem_singleton.1 hz]; exact intsA_ok hys h.1.2, hic, (show 1 ≤ 1000000 by decide)⟩
    have := run_all w' (g2 nb nc u v (-2) 3) (holds_of_abs hw fun R h => hgok h.1.1.1) ⟨ib, ic, [y]⟩ hok
    have e : ([y].map IntsV.xs) = [[-2]] := by rw [List.map_cons, List.map_nil, hy]
    rw [e, runH_G g2_nlin, hR] at this
    exact this) (fun hne => absurd rfl hne) (fun _ z hz hzs => ?_)
  refine Wp.know (p := ∃ a, sb = some a) (fun ρ w' hw => holds_of_abs hw fun R h => base_some (j := 0) (rowsA_in h.1.1.1.2) (show 0 < 2 by decide)) ?_
  rintro ⟨sa, rfl⟩
  (repeat' ((conv => whnf) <;> first | (show @cmpK _ _ _; (refine cmp_yes rfl ?_)) | (show idxK _ _ _ _ _; (refine idx_of sa 1 rfl rfl (show 1 < 2 by decide) ?_)) | (show roAggK _ _ _ _; (refine roAgg_row (fun R w' h => rowsA_in h.1.1.1.2) [.int .i64 1, .int .i64 10] (j := 1) rfl rfl ?_)) | (show pureK _ _ _; (refine span_eql (s := (1, 10)) ⟨by decide, by decide⟩ ⟨by decide, by decide⟩ ?_)) | (show Wp _ _ _ _ _ _ _; (refine Wp.go tabOk rfl ?_)) | (show @cmpK _ _ _; (first | refine cmp_yes (by omega) ?_ | refine cmp_no (by omega) ?_ | (refine cmp_both ?_ ?_ <;> intro _))) | (show wrapK _ _ _; (refine wrap_i64 (by omega) (by omega) ?_)) | (show leK _ _ _; (refine le_of (by first | exact Nat.le_refl _ | omega) ?_)) | (show roomK _ _ _; (refine room_of (by first | omega | (dsimp only; omega)) ?_)) | (show ltK _ _ _; (refine lt_of (by omega) ?_)) | (show _ ∧ _; (refine ⟨?_, ?_⟩)) | (show keepK _ _ _ _ _; (refine keep_of (by first | exact List.Sublist.refl _ | exact List.Sublist.cons _ (List.Sublist.refl _) | exact List.Sublist.cons _ (List.Sublist.cons _ (List.Sublist.refl _)) | exact List.Sublist.cons _ (List.Sublist.cons _ (List.Sublist.cons _ (List.Sublist.refl _)))) (by first | exact (fun _ _ h => h) | exact (fun _ _ h => h.1) | exact (fun _ _ h => h.1.1)) ?_))))
  refine freeze_intsI (w0 := w) [5] (fun R w' h => h.1.1.1.1.1.1.1) rfl rfl (few_i64 rfl) (by decide) (fun q hq hqs => ?_)
  (repeat' ((conv => whnf) <;> first | (show @cmpK _ _ _; (refine cmp_yes rfl ?_)) | (show callK _ 39 _ _ _ _ _; (refine call_pure (f := 39) Try.call39 (.bool true) (fun ρ w' hw => by have := same_any w' z q (holds_of_abs hw fun R h => intsA_ok hzs h.1.2) (holds_of_abs hw fun R h => intsA_ok hqs h.2); rw [decide_eq_true (hz.trans hq.symm)] at this; exact this) ?_)) | (show callK _ 41 _ _ _ _ _; (refine call_pure (f := 41) Try.call41 (.int .i64 10) (fun ρ w' hw => most_any w' (some sa) sc [(-2, 3), (1, 10)] (holds_of_abs hw fun R h => rowsA_in h.1.1.1.1.2) (by intro s hs; simp at hs; rcases hs with rfl | rfl <;> exact ⟨⟨by decide, by decide⟩, ⟨by decide, by decide⟩⟩) (by decide)) ?_)) | (show Wp _ _ _ _ _ _ _; (refine Wp.go tabOk rfl ?_)) | (show @cmpK _ _ _; (first | refine cmp_yes (by omega) ?_ | refine cmp_no (by omega) ?_ | (refine cmp_both ?_ ?_ <;> intro _))) | (show wrapK _ _ _; (refine wrap_i64 (by omega) (by omega) ?_)) | (show leK _ _ _; (refine le_of (by first | exact Nat.le_refl _ | omega) ?_)) | (show roomK _ _ _; (refine room_of (by first | omega | (dsimp only; omega)) ?_)) | (show ltK _ _ _; (refine lt_of (by omega) ?_)) | (show _ ∧ _; (refine ⟨?_, ?_⟩)) | (show keepK _ _ _ _ _; (refine keep_of (by first | exact List.Sublist.refl _ | exact List.Sublist.cons _ (List.Sublist.refl _) | exact List.Sublist.cons _ (List.Sublist.cons _ (List.Sublist.refl _)) | exact List.Sublist.cons _ (List.Sublist.cons _ (List.Sublist.cons _ (List.Sublist.refl _)))) (by first | exact (fun _ _ h => h) | exact (fun _ _ h => h.1) | exact (fun _ _ h => h.1.1)) ?_)) | (show ownK _ _ _ _ _; (refine own_keep ?_))))
  conv => whnf
  exact ends_bool (fun R w' h => h.1.1.1.1.1.1.1.1) rfl rfl
end Go.Proofs.Ytajbngkcgbehlaa
/- JQ -/
namespace Go.Proofs.Ytajbngkcgbehlaa
open Go.SX Go.RowKit
theorem spanE_two {x y : Int} (h : x ≤ y) : spanE [x, y] = (x, y) := by
  have e1 : foldI min [x, y] = min x y := rfl
  have e2 : foldI max [x, y] = max x y := rfl
  unfold spanE
  rw [e1, e2, Int.min_eq_left h, Int.max_eq_right h]
theorem sp_mem {l : List Sp} {k : Nat} (h : k < l.length) : l.getD k (0, 0) ∈ l := by
  rw [List.getD_eq_getElem?_getD, List.getElem?_eq_getElem h]; exact List.getElem_mem h
theorem lin_no (w : World) {k : Int} (h : ¬ (k = 3 ∨ k = 4 ∨ k = 5)) : Calls Try.prog 111 #[.int .i64 k] w fun e w' => e = .returned (.bool false) ∧ Ext w w' := by
  have := linear_any w k
  rw [decide_eq_false h] at this
  exact this
set_option maxRecDepth 20000 in
set_option maxHeartbeats 4000000 in
theorem span_plain (w : World) (n : NodeV) (sv : ShapesV) (b2 : Option Addr) (c2 : Nat) (acc : List Sp) (hk : n.kind = 1 ∨ n.kind = 2 ∨ n.kind = 6 ∨ n.kind = 7 ∨ n.kind = 9) (hno : n.ok w) (nd : ∀ x ∈ n.data.xs, bd20 x) (nle : n.lo ≤ n.hi) (h2 : n.kind = 2 → 1 ≤ n.data.xs.length) (h7 : n.kind = 7 → n.data.xs.length = 1) (ha0 : 0 ≤ n.a) (hb0 : 0 ≤ n.b) (hacc : RowsI w b2 2 (spRows acc)) (hA : n.kind ≠ 1 → n.kind ≠ 2 → n.a.toNat < acc.length) (hB : n.kind = 6 → n.b.toNat < acc.length) (hbd : ∀ s ∈ acc, bd20 s.1 ∧ bd20 s.2 ∧ s.1 ≤ s.2) : Calls Try.prog 79 #[n.valA, sv.val, .slice b2 acc.length c2] w fun e w' => e = .returned (spanV (spanE (endsL n (acc.getD n.a.toNat (0, 0)) (acc.getD n.b.toNat (0, 0))))) ∧ Ext w w' := by
  have hlinC : ∀ w', Calls Try.prog 111 #[.int .i64 n.kind] w' fun e w'' => e = .returned (.bool false) ∧ Ext w' w'' := fun w' => lin_no w' (by omega)
  have hna : n.a = (n.a.toNat : Int) := (Int.toNat_of_nonneg ha0).symm
  have hnb : n.b = (n.b.toNat : Int) := (Int.toNat_of_nonneg hb0).symm
  unfold endsL
  rcases hk with hk | hk | hk | hk | hk
  · rw [if_pos hk, spanE_two nle]
    refine calls_of tab tabOk Try.func79 rfl rfl rfl [] (fun _ => ⟨none, 0⟩) [.agg [.c (.int .i64 n.kind), .c (.int .i64 n.a), .c (.int .i64 n.b), .c n.shape.val, .c (.int .i64 n.lo), .c (.int .i64 n.hi), .c (.int .i64 n.size), .c n.data.val, .c n.bias.val], .c sv.val, .c (.slice b2 acc.length c2)] [] (baseA w) 0 rfl rfl (by show 3 ≤ _; decide) (abs_base w) ?_
    (repeat' ((conv => whnf) <;> first | (show drawK _ 8 _ _ _ _ _ _; (refine draw_quiet tabOk mixed (by kernel_rfl) ?_)) | (show drawK _ 13 _ _ _ _ _ _; (refine draw_quiet tabOk mixed (by kernel_rfl) ?_)) | (show drawK _ 28 _ _ _ _ _ _; (refine draw_tree tabOk mixed [16] _ (.take 0 (.take 1 (.take 2 (.take 3 (.take 4 (.take 5 (.take 6 (.take 7 (.take 8 (.take 9 (.take 10 (.take 11 (.take 12 (.take 13 (.one 14 (.one 15 (.one 16 (.done)))))))))))))))))) (by kernel_rfl) (by kernel_rfl) (by kernel_rfl) (List.Sublist.refl _) ?_)) | (show drawK _ 30 _ _ _ _ _ _; (refine draw_quiet tabOk mixed (by kernel_rfl) ?_)) | (show drawK _ 31 _ _ _ _ _ _; (refine draw_tree tabOk mixed [] _ (.take 0 (.take 1 (.take 2 (.take 3 (.take 4 (.take 6 (.take 7 (.take 8 (.take 9 (.take 10 (.one 5 (.one 11 (.one 12 (.take 13 (.done))))))))))))))) (by kernel_rfl) (by kernel_rfl) (by kernel_rfl) (List.Sublist.refl _) ?_)) | (show Wp _ _ _ _ _ _ _; (refine Wp.go tabOk rfl ?_)) | (show @cmpK _ _ _; (first | refine cmp_yes (by omega) ?_ | refine cmp_no (by omega) ?_ | (refine cmp_both ?_ ?_ <;> intro _))) | (show wrapK _ _ _; (refine wrap_i64 (by omega) (by omega) ?_)) | (show leK _ _ _; (refine le_of (by first | exact Nat.le_refl _ | omega) ?_)) | (show roomK _ _ _; (refine room_of (by first | omega | (dsimp only; omega)) ?_)) | (show ltK _ _ _; (refine lt_of (by omega) ?_)) | (show _ ∧ _; (refine ⟨?_, ?_⟩)) | (show keepK _ _ _ _ _; (refine keep_of (by first | exact List.Sublist.refl _ | exact List.Sublist.cons _ (List.Sublist.refl _) | exact List.Sublist.cons _ (List.Sublist.cons _ (List.Sublist.refl _)) | exact List.Sublist.cons _ (List.Sublist.cons _ (List.Sublist.cons _ (List.Sublist.refl _)))) (by first | exact (fun _ _ h => h) | exact (fun _ _ h => h.1) | exact (fun _ _ h => h.1.1)) ?_)) | (show ownK _ _ _ _ _; (refine own_keep ?_))))
    all_goals (conv => whnf)
    all_goals exact ends_of (fun _ _ h => h) (fun _ => rfl) rfl
  · rw [if_neg (by omega), if_pos hk]
    refine calls_of tab tabOk Try.func79 rfl rfl rfl [] (fun _ => ⟨none, 0⟩) [.agg [.c (.int .i64 n.kind), .c (.int .i64 n.a), .c (.int .i64 n.b), .c n.shape.val, .c (.int .i64 n.lo), .c (.int .i64 n.hi), .c (.int .i64 n.size), .c n.data.val, .c n.bias.val], .c sv.val, .c (.slice b2 acc.length c2)] [] (baseA w) 0 rfl rfl (by show 3 ≤ _; decide) (abs_base w) ?_
    (repeat' ((conv => whnf) <;> first | (show callK _ 110 _ _ _ _ _; (refine call_pure (f := 110) Try.call110 (spanV (spanE n.data.xs)) (fun ρ w' hw => cover_any w' n.data (holds_of_abs hw fun R h => hno.data.later h) (h2 hk)) ?_)) | (show drawK _ 8 _ _ _ _ _ _; (refine draw_quiet tabOk mixed (by kernel_rfl) ?_)) | (show drawK _ 13 _ _ _ _ _ _; (refine draw_quiet tabOk mixed (by kernel_rfl) ?_)) | (show drawK _ 28 _ _ _ _ _ _; (refine draw_tree tabOk mixed [16] _ (.take 0 (.take 1 (.take 2 (.take 3 (.take 4 (.take 5 (.take 6 (.take 7 (.take 8 (.take 9 (.take 10 (.take 11 (.take 12 (.take 13 (.one 14 (.one 15 (.one 16 (.done)))))))))))))))))) (by kernel_rfl) (by kernel_rfl) (by kernel_rfl) (List.Sublist.refl _) ?_)) | (show drawK _ 30 _ _ _ _ _ _; (refine draw_quiet tabOk mixed (by kernel_rfl) ?_)) | (show drawK _ 31 _ _ _ _ _ _; (refine draw_tree tabOk mixed [] _ (.take 0 (.take 1 (.take 2 (.take 3 (.take 4 (.take 6 (.take 7 (.take 8 (.take 9 (.take 10 (.one 5 (.one 11 (.one 12 (.take 13 (.done))))))))))))))) (by kernel_rfl) (by kernel_rfl) (by kernel_rfl) (List.Sublist.refl _) ?_)) | (show Wp _ _ _ _ _ _ _; (refine Wp.go tabOk rfl ?_)) | (show @cmpK _ _ _; (first | refine cmp_yes (by omega) ?_ | refine cmp_no (by omega) ?_ | (refine cmp_both ?_ ?_ <;> intro _))) | (show wrapK _ _ _; (refine wrap_i64 (by omega) (by omega) ?_)) | (show leK _ _ _; (refine le_of (by first | exact Nat.le_refl _ | omega) ?_)) | (show roomK _ _ _; (refine room_of (by first | omega | (dsimp only; omega)) ?_)) | (show ltK _ _ _; (refine lt_of (by omega) ?_)) | (show _ ∧ _; (refine ⟨?_, ?_⟩)) | (show keepK _ _ _ _ _; (refine keep_of (by first | exact List.Sublist.refl _ | exact List.Sublist.cons _ (List.Sublist.refl _) | exact List.Sublist.cons _ (List.Sublist.cons _ (List.Sublist.refl _)) | exact List.Sublist.cons _ (List.Sublist.cons _ (List.Sublist.cons _ (List.Sublist.refl _)))) (by first | exact (fun _ _ h => h) | exact (fun _ _ h => h.1) | exact (fun _ _ h => h.1.1)) ?_)) | (show ownK _ _ _ _ _; (refine own_keep ?_))))
    all_goals (conv => whnf)
    all_goals exact ends_of (fun _ _ h => h) (fun _ => rfl) rfl
  · rw [if_neg (by omega), if_neg (by omega), if_pos hk]
    have hlt := hA (by omega) (by omega)
    have hltB := hB hk
    obtain ⟨a2, ha2⟩ : ∃ a, b2 = some a := base_some (j := n.a.toNat) hacc (by rw [spRows_length]; exact hlt)
    have hrowA := spRows_getD hlt
    have hrowB := spRows_getD hltB
    have hmA := hbd _ (sp_mem hlt)
    have hmB := hbd _ (sp_mem hltB)
    generalize acc.getD n.a.toNat (0, 0) = a at *
    generalize acc.getD n.b.toNat (0, 0) = b at *
    obtain ⟨p1, p2, p3⟩ := hmA
    obtain ⟨q1, q2, q3⟩ := hmB
    rw [spanE_two (by omega)]
    unfold bd20 at p1 p2 q1 q2
    refine calls_of tab tabOk Try.func79 rfl rfl rfl [] (fun _ => ⟨none, 0⟩) [.agg [.c (.int .i64 n.kind), .c (.int .i64 n.a), .c (.int .i64 n.b), .c n.shape.val, .c (.int .i64 n.lo), .c (.int .i64 n.hi), .c (.int .i64 n.size), .c n.data.val, .c n.bias.val], .c sv.val, .c (.slice b2 acc.length c2)] [] (baseA w) 0 rfl rfl (by show 3 ≤ _; decide) (abs_base w) ?_
    (repeat' ((conv => whnf) <;> first | (show callK _ 111 _ _ _ _ _; (refine call_pure (f := 111) Try.call111 (.bool false) (fun ρ w' hw => hlinC w') ?_)) | (show idxK _ _ _ _ _; (first | refine idx_of a2 n.a.toNat ha2 hna hlt ?_ | refine idx_of a2 n.b.toNat ha2 hnb hltB ?_)) | (show roAggK _ _ _ _; (first | refine roAgg_row (fun R w' h => by rw [← ha2]; exact rows_base h hacc) _ hrowA rfl ?_ | refine roAgg_row (fun R w' h => by rw [← ha2]; exact rows_base h hacc) _ hrowB rfl ?_)) | (show drawK _ 8 _ _ _ _ _ _; (refine draw_quiet tabOk mixed (by kernel_rfl) ?_)) | (show drawK _ 13 _ _ _ _ _ _; (refine draw_quiet tabOk mixed (by kernel_rfl) ?_)) | (show drawK _ 28 _ _ _ _ _ _; (refine draw_tree tabOk mixed [16] _ (.take 0 (.take 1 (.take 2 (.take 3 (.take 4 (.take 5 (.take 6 (.take 7 (.take 8 (.take 9 (.take 10 (.take 11 (.take 12 (.take 13 (.one 14 (.one 15 (.one 16 (.done)))))))))))))))))) (by kernel_rfl) (by kernel_rfl) (by kernel_rfl) (List.Sublist.refl _) ?_)) | (show drawK _ 30 _ _ _ _ _ _; (refine draw_quiet tabOk mixed (by kernel_rfl) ?_)) | (show drawK _ 31 _ _ _ _ _ _; (refine draw_tree tabOk mixed [] _ (.take 0 (.take 1 (.take 2 (.take 3 (.take 4 (.take 6 (.take 7 (.take 8 (.take 9 (.take 10 (.one 5 (.one 11 (.one 12 (.take 13 (.done))))))))))))))) (by kernel_rfl) (by kernel_rfl) (by kernel_rfl) (List.Sublist.refl _) ?_)) | (show Wp _ _ _ _ _ _ _; (refine Wp.go tabOk rfl ?_)) | (show @cmpK _ _ _; (first | refine cmp_yes (by omega) ?_ | refine cmp_no (by omega) ?_ | (refine cmp_both ?_ ?_ <;> intro _))) | (show wrapK _ _ _; (refine wrap_i64 (by omega) (by omega) ?_)) | (show leK _ _ _; (refine le_of (by first | exact Nat.le_refl _ | omega) ?_)) | (show roomK _ _ _; (refine room_of (by first | omega | (dsimp only; omega)) ?_)) | (show ltK _ _ _; (refine lt_of (by omega) ?_)) | (show _ ∧ _; (refine ⟨?_, ?_⟩)) | (show keepK _ _ _ _ _; (refine keep_of (by first | exact List.Sublist.refl _ | exact List.Sublist.cons _ (List.Sublist.refl _) | exact List.Sublist.cons _ (List.Sublist.cons _ (List.Sublist.refl _)) | exact List.Sublist.cons _ (List.Sublist.cons _ (List.Sublist.cons _ (List.Sublist.refl _)))) (by first | exact (fun _ _ h => h) | exact (fun _ _ h => h.1) | exact (fun _ _ h => h.1.1)) ?_)) | (show ownK _ _ _ _ _; (refine own_keep ?_))))
    all_goals (conv => whnf)
    all_goals exact ends_of (fun _ _ h => h) (fun _ => rfl) rfl
  · rw [if_neg (by omega), if_neg (by omega), if_neg (by omega), if_pos hk]
    have hlt := hA (by omega) (by omega)
    have hd7 := h7 hk
    have hd := hno.data
    obtain ⟨a2, ha2⟩ : ∃ a, b2 = some a := base_some (j := n.a.toNat) hacc (by rw [spRows_length]; exact hlt)
    obtain ⟨ua, hua⟩ := hd.base (by omega)
    have hur : ∀ (R : Nat → Prop) w', (baseA w).holds R w' → RowsI w' (some ua) 1 (ints n.data.xs) := fun R w' h => by rw [← hua]; exact rows_base h hd.rows
    have hrowA := spRows_getD hlt
    have hmA := hbd _ (sp_mem hlt)
    generalize acc.getD n.a.toNat (0, 0) = a at *
    obtain ⟨p1, p2, p3⟩ := hmA
    have g0 := getD_bd nd 0
    have m1 := mul_bd (A := 1048576) (B := 1048576) g0 p1
    have m2 := mul_bd (A := 1048576) (B := 1048576) g0 p2
    generalize hd0 : n.data.xs.getD 0 0 = d0 at *
    have hfit : ∀ x ∈ [d0 * a.1, d0 * a.2], i64 x := fun x hx => by
      simp only [List.mem_cons, List.not_mem_nil, or_false] at hx
      unfold i64
      rcases hx with rfl | rfl <;> omega
    refine calls_of tab tabOk Try.func79 rfl rfl rfl [] (fun _ => ⟨none, 0⟩) [.agg [.c (.int .i64 n.kind), .c (.int .i64 n.a), .c (.int .i64 n.b), .c n.shape.val, .c (.int .i64 n.lo), .c (.int .i64 n.hi), .c (.int .i64 n.size), .c n.data.val, .c n.bias.val], .c sv.val, .c (.slice b2 acc.length c2)] [] (baseA w) 0 rfl rfl (by show 3 ≤ _; decide) (abs_base w) ?_
    (repeat' ((conv => whnf) <;> first | (show callK _ 111 _ _ _ _ _; (refine call_pure (f := 111) Try.call111 (.bool false) (fun ρ w' hw => hlinC w') ?_)) | (show idxK _ _ _ _ _; (first | refine idx_of a2 n.a.toNat ha2 hna hlt ?_ | refine idx_of ua 0 hua rfl (by omega) ?_)) | (show roAggK _ _ _ _; (refine roAgg_row (fun R w' h => by rw [← ha2]; exact rows_base h hacc) _ hrowA rfl ?_)) | (show roK _ _ _; (refine ro_intv hur (j := 0) (by omega) hd0 ?_)) | (show ownK _ _ _ _ _; (refine freeze_intsI (w0 := w) [d0 * a.1, d0 * a.2] (fun R w' h => h) rfl rfl hfit (by simp) (fun u hu hus => ?_))) | (show callK _ 110 _ _ _ _ _; (refine call_pure (f := 110) Try.call110 (spanV (spanE [d0 * a.1, d0 * a.2])) (fun ρ w' hw => hu ▸ cover_any w' u (holds_of_abs hw fun R h => intsA_ok hus ((intsA u).mono h.2 (fun b hb => hb.1))) (by rw [hu]; simp)) ?_)) | (show drawK _ 8 _ _ _ _ _ _; (refine draw_quiet tabOk mixed (by kernel_rfl) ?_)) | (show drawK _ 13 _ _ _ _ _ _; (refine draw_quiet tabOk mixed (by kernel_rfl) ?_)) | (show drawK _ 28 _ _ _ _ _ _; (refine draw_tree tabOk mixed [16] _ (.take 0 (.take 1 (.take 2 (.take 3 (.take 4 (.take 5 (.take 6 (.take 7 (.take 8 (.take 9 (.take 10 (.take 11 (.take 12 (.take 13 (.one 14 (.one 15 (.one 16 (.done)))))))))))))))))) (by kernel_rfl) (by kernel_rfl) (by kernel_rfl) (List.Sublist.refl _) ?_)) | (show drawK _ 30 _ _ _ _ _ _; (refine draw_quiet tabOk mixed (by kernel_rfl) ?_)) | (show drawK _ 31 _ _ _ _ _ _; (refine draw_tree tabOk mixed [] _ (.take 0 (.take 1 (.take 2 (.take 3 (.take 4 (.take 6 (.take 7 (.take 8 (.take 9 (.take 10 (.one 5 (.one 11 (.one 12 (.take 13 (.done))))))))))))))) (by kernel_rfl) (by kernel_rfl) (by kernel_rfl) (List.Sublist.refl _) ?_)) | (show Wp _ _ _ _ _ _ _; (refine Wp.go tabOk rfl ?_)) | (show @cmpK _ _ _; (first | refine cmp_yes (by omega) ?_ | refine cmp_no (by omega) ?_ | (refine cmp_both ?_ ?_ <;> intro _))) | (show wrapK _ _ _; (refine wrap_i64 (by omega) (by omega) ?_)) | (show leK _ _ _; (refine le_of (by first | exact Nat.le_refl _ | omega) ?_)) | (show roomK _ _ _; (refine room_of (by first | omega | (dsimp only; omega)) ?_)) | (show ltK _ _ _; (refine lt_of (by omega) ?_)) | (show _ ∧ _; (refine ⟨?_, ?_⟩)) | (show keepK _ _ _ _ _; (refine keep_of (by first | exact List.Sublist.refl _ | exact List.Sublist.cons _ (List.Sublist.refl _) | exact List.Sublist.cons _ (List.Sublist.cons _ (List.Sublist.refl _)) | exact List.Sublist.cons _ (List.Sublist.cons _ (List.Sublist.cons _ (List.Sublist.refl _)))) (by first | exact (fun _ _ h => h) | exact (fun _ _ h => h.1) | exact (fun _ _ h => h.1.1)) ?_)) | (show ownK _ _ _ _ _; (refine own_keep ?_))))
    all_goals (conv => whnf)
    all_goals exact ends_of (fun _ _ h => h.1) (fun _ => rfl) rfl
  · rw [if_neg (by omega), if_neg (by omega), if_neg (by omega), if_neg (by omega), if_neg (by omega)]
    have hlt := hA (by omega) (by omega)
    obtain ⟨a2, ha2⟩ : ∃ a, b2 = some a := base_some (j := n.a.toNat) hacc (by rw [spRows_length]; exact hlt)
    have hrowA := spRows_getD hlt
    have hmA := hbd _ (sp_mem hlt)
    generalize acc.getD n.a.toNat (0, 0) = a at *
    rw [spanE_two hmA.2.2]
    refine calls_of tab tabOk Try.func79 rfl rfl rfl [] (fun _ => ⟨none, 0⟩) [.agg [.c (.int .i64 n.kind), .c (.int .i64 n.a), .c (.int .i64 n.b), .c n.shape.val, .c (.int .i64 n.lo), .c (.int .i64 n.hi), .c (.int .i64 n.size), .c n.data.val, .c n.bias.val], .c sv.val, .c (.slice b2 acc.length c2)] [] (baseA w) 0 rfl rfl (by show 3 ≤ _; decide) (abs_base w) ?_
    (repeat' ((conv => whnf) <;> first | (show callK _ 111 _ _ _ _ _; (refine call_pure (f := 111) Try.call111 (.bool false) (fun ρ w' hw => hlinC w') ?_)) | (show idxK _ _ _ _ _; (refine idx_of a2 n.a.toNat ha2 hna hlt ?_)) | (show roAggK _ _ _ _; (refine roAgg_row (fun R w' h => by rw [← ha2]; exact rows_base h hacc) _ hrowA rfl ?_)) | (show drawK _ 8 _ _ _ _ _ _; (refine draw_quiet tabOk mixed (by kernel_rfl) ?_)) | (show drawK _ 13 _ _ _ _ _ _; (refine draw_quiet tabOk mixed (by kernel_rfl) ?_)) | (show drawK _ 28 _ _ _ _ _ _; (refine draw_tree tabOk mixed [16] _ (.take 0 (.take 1 (.take 2 (.take 3 (.take 4 (.take 5 (.take 6 (.take 7 (.take 8 (.take 9 (.take 10 (.take 11 (.take 12 (.take 13 (.one 14 (.one 15 (.one 16 (.done)))))))))))))))))) (by kernel_rfl) (by kernel_rfl) (by kernel_rfl) (List.Sublist.refl _) ?_)) | (show drawK _ 30 _ _ _ _ _ _; (refine draw_quiet tabOk mixed (by kernel_rfl) ?_)) | (show drawK _ 31 _ _ _ _ _ _; (refine draw_tree tabOk mixed [] _ (.take 0 (.take 1 (.take 2 (.take 3 (.take 4 (.take 6 (.take 7 (.take 8 (.take 9 (.take 10 (.one 5 (.one 11 (.one 12 (.take 13 (.done))))))))))))))) (by kernel_rfl) (by kernel_rfl) (by kernel_rfl) (List.Sublist.refl _) ?_)) | (show Wp _ _ _ _ _ _ _; (refine Wp.go tabOk rfl ?_)) | (show @cmpK _ _ _; (first | refine cmp_yes (by omega) ?_ | refine cmp_no (by omega) ?_ | (refine cmp_both ?_ ?_ <;> intro _))) | (show wrapK _ _ _; (refine wrap_i64 (by omega) (by omega) ?_)) | (show leK _ _ _; (refine le_of (by first | exact Nat.le_refl _ | omega) ?_)) | (show roomK _ _ _; (refine room_of (by first | omega | (dsimp only; omega)) ?_)) | (show ltK _ _ _; (refine lt_of (by omega) ?_)) | (show _ ∧ _; (refine ⟨?_, ?_⟩)) | (show keepK _ _ _ _ _; (refine keep_of (by first | exact List.Sublist.refl _ | exact List.Sublist.cons _ (List.Sublist.refl _) | exact List.Sublist.cons _ (List.Sublist.cons _ (List.Sublist.refl _)) | exact List.Sublist.cons _ (List.Sublist.cons _ (List.Sublist.cons _ (List.Sublist.refl _)))) (by first | exact (fun _ _ h => h) | exact (fun _ _ h => h.1) | exact (fun _ _ h => h.1.1)) ?_)) | (show ownK _ _ _ _ _; (refine own_keep ?_))))
    all_goals (conv => whnf)
    all_goals exact ends_of (fun _ _ h => h) (fun _ => rfl) rfl
end Go.Proofs.Ytajbngkcgbehlaa
