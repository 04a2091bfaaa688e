import Derived.Test.YtdmkdogakbipbaaKLinearMade9
/- JQ -/
namespace Go.Proofs.Ytdmkdogakbipbaa
open Go.SX Go.RowKit
theorem spanE_two {x y : Int} (h : x ≤ y) : spanE [x, y] = (x, y) := by
  have e1 : foldI min [x, y] = min x y := rfl
  have e2 : foldI max [x, y] = max x y := rfl
  unfold spanE
  rw [e1, e2, Int.min_eq_left h, Int.max_eq_right h]
theorem sp_mem {l : List Sp} {k : Nat} (h : k < l.length) : l.getD k (0, 0) ∈ l := by
  rw [List.getD_eq_getElem?_getD, List.getElem?_eq_getElem h]; exact List.getElem_mem h
theorem lin_no (w : World) {k : Int} (h : ¬ (k = 3 ∨ k = 4 ∨ k = 5)) : Calls Try.prog 85 #[.int .i64 k] w fun e w' => e = .returned (.bool false) ∧ Ext w w' := by
  have := linear_any w k
  rw [decide_eq_false h] at this
  exact this
set_option maxRecDepth 20000 in
set_option maxHeartbeats 4000000 in
theorem span_plain (w : World) (n : NodeV) (sv : ShapesV) (b2 : Option Addr) (c2 : Nat) (acc : List Sp) (hk : n.kind = 1 ∨ n.kind = 2 ∨ n.kind = 6 ∨ n.kind = 7 ∨ n.kind = 9) (hno : n.ok w) (nd : ∀ x ∈ n.data.xs, bd20 x) (nle : n.lo ≤ n.hi) (h2 : n.kind = 2 → 1 ≤ n.data.xs.length) (h7 : n.kind = 7 → n.data.xs.length = 1) (ha0 : 0 ≤ n.a) (hb0 : 0 ≤ n.b) (hacc : RowsI w b2 2 (spRows acc)) (hA : n.kind ≠ 1 → n.kind ≠ 2 → n.a.toNat < acc.length) (hB : n.kind = 6 → n.b.toNat < acc.length) (hbd : ∀ s ∈ acc, bd20 s.1 ∧ bd20 s.2 ∧ s.1 ≤ s.2) : Calls Try.prog 84 #[n.valA, sv.val, .slice b2 acc.length c2] w fun e w' => e = .returned (spanV (spanE (endsL n (acc.getD n.a.toNat (0, 0)) (acc.getD n.b.toNat (0, 0))))) ∧ Ext w w' := by
  have hlinC : ∀ w', Calls Try.prog 85 #[.int .i64 n.kind] w' fun e w'' => e = .returned (.bool false) ∧ Ext w' w'' := fun w' => lin_no w' (by omega)
  have hna : n.a = (n.a.toNat : Int) := (Int.toNat_of_nonneg ha0).symm
  have hnb : n.b = (n.b.toNat : Int) := (Int.toNat_of_nonneg hb0).symm
  unfold endsL
  rcases hk with hk | hk | hk | hk | hk
  · rw [if_pos hk, spanE_two nle]
    refine calls_of tab tabOk Try.func84 rfl rfl rfl [] (fun _ => ⟨none, 0⟩) [.agg [.c (.int .i64 n.kind), .c (.int .i64 n.a), .c (.int .i64 n.b), .c n.shape.val, .c (.int .i64 n.lo), .c (.int .i64 n.hi), .c (.int .i64 n.size), .c n.data.val, .c n.bias.val], .c sv.val, .c (.slice b2 acc.length c2)] [] (baseA w) 0 rfl rfl (by show 3 ≤ _; decide) (abs_base w) ?_
    (repeat' ((conv => whnf) <;> first | (show drawK _ 28 _ _ _ _ _ _; refine draw_tree tabOk mixed [16] _ dtJP1 (by kernel_rfl) (by kernel_rfl) (by kernel_rfl) (List.Sublist.refl _) ?_) | (show drawK _ 31 _ _ _ _ _ _; refine draw_tree tabOk mixed [] _ dtJP2 (by kernel_rfl) (by kernel_rfl) (by kernel_rfl) (List.Sublist.refl _) ?_) | (show drawK _ _ _ _ _ _ _ _; refine draw_quiet tabOk mixed (by kernel_rfl) ?_) | (show Wp _ _ _ _ _ _ _; refine Wp.go tabOk rfl ?_) | (show @cmpK _ _ _; (first | refine cmpY ?_ | refine cmpN ?_ | (refine cmp_both ?_ ?_ <;> intro _))) | (show wrapK _ _ _; refine wrapA ?_) | (show leK _ _ _; refine leA ?_) | (show roomK _ _ _; refine roomA ?_) | (show ltK _ _ _; refine ltA ?_) | (show _ ∧ _; refine ⟨?_, ?_⟩) | (show keepK _ _ _ _ _; refine keepA ?_) | refine own_keep ?_ | refine ap_old ?_))
    all_goals (conv => whnf)
    all_goals exact ends_of (fun _ _ h => h) (fun _ => rfl) rfl
  · rw [if_neg (by omega), if_pos hk]
    refine calls_of tab tabOk Try.func84 rfl rfl rfl [] (fun _ => ⟨none, 0⟩) [.agg [.c (.int .i64 n.kind), .c (.int .i64 n.a), .c (.int .i64 n.b), .c n.shape.val, .c (.int .i64 n.lo), .c (.int .i64 n.hi), .c (.int .i64 n.size), .c n.data.val, .c n.bias.val], .c sv.val, .c (.slice b2 acc.length c2)] [] (baseA w) 0 rfl rfl (by show 3 ≤ _; decide) (abs_base w) ?_
    (repeat' ((conv => whnf) <;> first | (show callK _ 108 _ _ _ _ _; refine call_pure (f := 108) Try.call108 (spanV (spanE n.data.xs)) (fun ρ w' hw => cover_any w' n.data (holds_of_abs hw fun R h => hno.data.later h) (h2 hk)) ?_) | (show drawK _ 28 _ _ _ _ _ _; refine draw_tree tabOk mixed [16] _ dtJP1 (by kernel_rfl) (by kernel_rfl) (by kernel_rfl) (List.Sublist.refl _) ?_) | (show drawK _ 31 _ _ _ _ _ _; refine draw_tree tabOk mixed [] _ dtJP2 (by kernel_rfl) (by kernel_rfl) (by kernel_rfl) (List.Sublist.refl _) ?_) | (show drawK _ _ _ _ _ _ _ _; refine draw_quiet tabOk mixed (by kernel_rfl) ?_) | (show Wp _ _ _ _ _ _ _; refine Wp.go tabOk rfl ?_) | (show @cmpK _ _ _; (first | refine cmpY ?_ | refine cmpN ?_ | (refine cmp_both ?_ ?_ <;> intro _))) | (show wrapK _ _ _; refine wrapA ?_) | (show leK _ _ _; refine leA ?_) | (show roomK _ _ _; refine roomA ?_) | (show ltK _ _ _; refine ltA ?_) | (show _ ∧ _; refine ⟨?_, ?_⟩) | (show keepK _ _ _ _ _; refine keepA ?_) | refine own_keep ?_ | refine ap_old ?_))
    all_goals (conv => whnf)
    all_goals exact ends_of (fun _ _ h => h) (fun _ => rfl) rfl
  · rw [if_neg (by omega), if_neg (by omega), if_pos hk]
    have hlt := hA (by omega) (by omega)
    have hltB := hB hk
    obtain ⟨a2, ha2⟩ : ∃ a, b2 = some a := base_some (j := n.a.toNat) hacc (by rw [spRows_length]; exact hlt)
    have hrowA := spRows_getD hlt
    have hrowB := spRows_getD hltB
    have hmA := hbd _ (sp_mem hlt)
    have hmB := hbd _ (sp_mem hltB)
    generalize acc.getD n.a.toNat (0, 0) = a at *
    generalize acc.getD n.b.toNat (0, 0) = b at *
    obtain ⟨p1, p2, p3⟩ := hmA
    obtain ⟨q1, q2, q3⟩ := hmB
    rw [spanE_two (by omega)]
    unfold bd20 at p1 p2 q1 q2
    refine calls_of tab tabOk Try.func84 rfl rfl rfl [] (fun _ => ⟨none, 0⟩) [.agg [.c (.int .i64 n.kind), .c (.int .i64 n.a), .c (.int .i64 n.b), .c n.shape.val, .c (.int .i64 n.lo), .c (.int .i64 n.hi), .c (.int .i64 n.size), .c n.data.val, .c n.bias.val], .c sv.val, .c (.slice b2 acc.length c2)] [] (baseA w) 0 rfl rfl (by show 3 ≤ _; decide) (abs_base w) ?_
    (repeat' ((conv => whnf) <;> first | (show callK _ 85 _ _ _ _ _; refine call_pure (f := 85) Try.call85 (.bool false) (fun ρ w' hw => hlinC w') ?_) | (show idxK _ _ _ _ _; (first | refine idx_of a2 n.a.toNat ha2 hna hlt ?_ | refine idx_of a2 n.b.toNat ha2 hnb hltB ?_)) | (show roAggK _ _ _ _; (first | refine roAgg_row (fun R w' h => by rw [← ha2]; exact rows_base h hacc) _ hrowA rfl ?_ | refine roAgg_row (fun R w' h => by rw [← ha2]; exact rows_base h hacc) _ hrowB rfl ?_)) | (show drawK _ 28 _ _ _ _ _ _; refine draw_tree tabOk mixed [16] _ dtJP1 (by kernel_rfl) (by kernel_rfl) (by kernel_rfl) (List.Sublist.refl _) ?_) | (show drawK _ 31 _ _ _ _ _ _; refine draw_tree tabOk mixed [] _ dtJP2 (by kernel_rfl) (by kernel_rfl) (by kernel_rfl) (List.Sublist.refl _) ?_) | (show drawK _ _ _ _ _ _ _ _; refine draw_quiet tabOk mixed (by kernel_rfl) ?_) | (show Wp _ _ _ _ _ _ _; refine Wp.go tabOk rfl ?_) | (show @cmpK _ _ _; (first | refine cmpY ?_ | refine cmpN ?_ | (refine cmp_both ?_ ?_ <;> intro _))) | (show wrapK _ _ _; refine wrapA ?_) | (show leK _ _ _; refine leA ?_) | (show roomK _ _ _; refine roomA ?_) | (show ltK _ _ _; refine ltA ?_) | (show _ ∧ _; refine ⟨?_, ?_⟩) | (show keepK _ _ _ _ _; refine keepA ?_) | refine own_keep ?_ | refine ap_old ?_))
    all_goals (conv => whnf)
    all_goals exact ends_of (fun _ _ h => h) (fun _ => rfl) rfl
  · rw [if_neg (by omega), if_neg (by omega), if_neg (by omega), if_pos hk]
    have hlt := hA (by omega) (by omega)
    have hd7 := h7 hk
    have hd := hno.data
    obtain ⟨a2, ha2⟩ : ∃ a, b2 = some a := base_some (j := n.a.toNat) hacc (by rw [spRows_length]; exact hlt)
    obtain ⟨ua, hua⟩ := hd.base (by omega)
    have hur : ∀ (R : Nat → Prop) w', (baseA w).holds R w' → RowsI w' (some ua) 1 (ints n.data.xs) := fun R w' h => by rw [← hua]; exact rows_base h hd.rows
    have hrowA := spRows_getD hlt
    have hmA := hbd _ (sp_mem hlt)
    generalize acc.getD n.a.toNat (0, 0) = a at *
    obtain ⟨p1, p2, p3⟩ := hmA
    have g0 := getD_bd nd 0
    have m1 := mul_bd (A := 1048576) (B := 1048576) g0 p1
    have m2 := mul_bd (A := 1048576) (B := 1048576) g0 p2
    generalize hd0 : n.data.xs.getD 0 0 = d0 at *
    have hfit : ∀ x ∈ [d0 * a.1, d0 * a.2], i64 x := fun x hx => by
      simp only [List.mem_cons, List.not_mem_nil, or_false] at hx
      unfold i64
      rcases hx with rfl | rfl <;> omega
    refine calls_of tab tabOk Try.func84 rfl rfl rfl [] (fun _ => ⟨none, 0⟩) [.agg [.c (.int .i64 n.kind), .c (.int .i64 n.a), .c (.int .i64 n.b), .c n.shape.val, .c (.int .i64 n.lo), .c (.int .i64 n.hi), .c (.int .i64 n.size), .c n.data.val, .c n.bias.val], .c sv.val, .c (.slice b2 acc.length c2)] [] (baseA w) 0 rfl rfl (by show 3 ≤ _; decide) (abs_base w) ?_
    (repeat' ((conv => whnf) <;> first | (show callK _ 85 _ _ _ _ _; refine call_pure (f := 85) Try.call85 (.bool false) (fun ρ w' hw => hlinC w') ?_) | (show idxK _ _ _ _ _; (first | refine idx_of a2 n.a.toNat ha2 hna hlt ?_ | refine idx_of ua 0 hua rfl (by omega) ?_)) | (show roAggK _ _ _ _; (refine roAgg_row (fun R w' h => by rw [← ha2]; exact rows_base h hacc) _ hrowA rfl ?_)) | (show roK _ _ _; refine ro_intv hur (j := 0) (by omega) hd0 ?_) | (show ownK _ _ _ _ _; refine freeze_intsI (w0 := w) [d0 * a.1, d0 * a.2] (fun R w' h => h) rfl rfl hfit (by simp) (fun u hu hus => ?_)) | (show callK _ 108 _ _ _ _ _; (refine call_pure (f := 108) Try.call108 (spanV (spanE [d0 * a.1, d0 * a.2])) (fun ρ w' hw => hu ▸ cover_any w' u (holds_of_abs hw fun R h => intsA_ok hus ((intsA u).mono h.2 (fun b hb => hb.1))) (by rw [hu]; simp)) ?_)) | (show drawK _ 28 _ _ _ _ _ _; refine draw_tree tabOk mixed [16] _ dtJP1 (by kernel_rfl) (by kernel_rfl) (by kernel_rfl) (List.Sublist.refl _) ?_) | (show drawK _ 31 _ _ _ _ _ _; refine draw_tree tabOk mixed [] _ dtJP2 (by kernel_rfl) (by kernel_rfl) (by kernel_rfl) (List.Sublist.refl _) ?_) | (show drawK _ _ _ _ _ _ _ _; refine draw_quiet tabOk mixed (by kernel_rfl) ?_) | (show Wp _ _ _ _ _ _ _; refine Wp.go tabOk rfl ?_) | (show @cmpK _ _ _; (first | refine cmpY ?_ | refine cmpN ?_ | (refine cmp_both ?_ ?_ <;> intro _))) | (show wrapK _ _ _; refine wrapA ?_) | (show leK _ _ _; refine leA ?_) | (show roomK _ _ _; refine roomA ?_) | (show ltK _ _ _; refine ltA ?_) | (show _ ∧ _; refine ⟨?_, ?_⟩) | (show keepK _ _ _ _ _; refine keepA ?_) | refine own_keep ?_ | refine ap_old ?_))
    all_goals (conv => whnf)
    all_goals exact ends_of (fun _ _ h => h.1) (fun _ => rfl) rfl
  · rw [if_neg (by omega), if_neg (by omega), if_neg (by omega), if_neg (by omega), if_neg (by omega)]
    have hlt := hA (by omega) (by omega)
    obtain ⟨a2, ha2⟩ : ∃ a, b2 = some a := base_some (j := n.a.toNat) hacc (by rw [spRows_length]; exact hlt)
    have hrowA := spRows_getD hlt
    have hmA := hbd _ (sp_mem hlt)
    generalize acc.getD n.a.toNat (0, 0) = a at *
    rw [spanE_two hmA.2.2]
    refine calls_of tab tabOk Try.func84 rfl rfl rfl [] (fun _ => ⟨none, 0⟩) [.agg [.c (.int .i64 n.kind), .c (.int .i64 n.a), .c (.int .i64 n.b), .c n.shape.val, .c (.int .i64 n.lo), .c (.int .i64 n.hi), .c (.int .i64 n.size), .c n.data.val, .c n.bias.val], .c sv.val, .c (.slice b2 acc.length c2)] [] (baseA w) 0 rfl rfl (by show 3 ≤ _; decide) (abs_base w) ?_
    (repeat' ((conv => whnf) <;> first | (show callK _ 85 _ _ _ _ _; refine call_pure (f := 85) Try.call85 (.bool false) (fun ρ w' hw => hlinC w') ?_) | (show idxK _ _ _ _ _; refine idx_of a2 n.a.toNat ha2 hna hlt ?_) | (show roAggK _ _ _ _; (refine roAgg_row (fun R w' h => by rw [← ha2]; exact rows_base h hacc) _ hrowA rfl ?_)) | (show drawK _ 28 _ _ _ _ _ _; refine draw_tree tabOk mixed [16] _ dtJP1 (by kernel_rfl) (by kernel_rfl) (by kernel_rfl) (List.Sublist.refl _) ?_) | (show drawK _ 31 _ _ _ _ _ _; refine draw_tree tabOk mixed [] _ dtJP2 (by kernel_rfl) (by kernel_rfl) (by kernel_rfl) (List.Sublist.refl _) ?_) | (show drawK _ _ _ _ _ _ _ _; refine draw_quiet tabOk mixed (by kernel_rfl) ?_) | (show Wp _ _ _ _ _ _ _; refine Wp.go tabOk rfl ?_) | (show @cmpK _ _ _; (first | refine cmpY ?_ | refine cmpN ?_ | (refine cmp_both ?_ ?_ <;> intro _))) | (show wrapK _ _ _; refine wrapA ?_) | (show leK _ _ _; refine leA ?_) | (show roomK _ _ _; refine roomA ?_) | (show ltK _ _ _; refine ltA ?_) | (show _ ∧ _; refine ⟨?_, ?_⟩) | (show keepK _ _ _ _ _; refine keepA ?_) | refine own_keep ?_ | refine ap_old ?_))
    all_goals (conv => whnf)
    all_goals exact ends_of (fun _ _ h => h) (fun _ => rfl) rfl
end Go.Proofs.Ytdmkdogakbipbaa

/- JV -/
namespace Go.Proofs.Ytdmkdogakbipbaa
open Go.SX Go.RowKit
theorem gNum_at {av : List Int} {r : List Int} {j : Nat} : gNum av j (r.getD j 0) = r.getD j 0 * av.getD j 0 := rfl
set_option maxRecDepth 20000 in
set_option maxHeartbeats 4000000 in
theorem values_lin (w : World) (n : NodeV) (sh : List (List Int)) (s : List Int) (sv : ShapesV) (hs : sv.ok w) (t : IntsV) (cnt : Nat) (h : PlaceIn n sh s t.xs cnt) (hl : isLin n) (hno : n.ok w) (ht : sv.l[n.a.toNat]? = some t) (ha0 : 0 ≤ n.a) (kb : Option Addr) (kc : Nat) (kn : List IntsV) (hkr : RowsI w kb 1 (shRows kn)) (a : IntsV) (hka : kn[n.a.toNat]? = some a) (hao : a.ok w) (hab : ∀ x ∈ a.xs, bd20 x) (hal : (a.xs.length : Int) = entries t.xs) : Calls Try.prog 55 #[n.valA, sv.val, .slice kb kn.length kc] w (EndsPost w n (numsLin n cnt cnt (termsG n t.xs) a.xs)) := by
  obtain ⟨htl, hte⟩ := List.getElem?_eq_some_iff.1 ht
  obtain ⟨hkl, hke⟩ := List.getElem?_eq_some_iff.1 hka
  have htm : t ∈ sv.l := hte ▸ List.getElem_mem htl
  have hto := hs.each t htm
  obtain ⟨ka, hkb⟩ : ∃ a, kb = some a := base_some (j := n.a.toNat) hkr (by rw [shRows_length]; exact hkl)
  obtain ⟨sa, hsa⟩ : ∃ a, sv.base = some a := base_some (j := n.a.toNat) hs.rows (by rw [shRows_length]; exact htl)
  have hrowK : (shRows kn)[n.a.toNat]? = some [a.val] := by rw [shRows_get hkl, hke]
  have hrowT : (shRows sv.l)[n.a.toNat]? = some [t.val] := by rw [shRows_get htl, hte]
  have hna : n.a = (n.a.toNat : Int) := (Int.toNat_of_nonneg ha0).symm
  have hfew := h.few
  have hsums : ∀ o, o < cnt → ∀ g : Nat → Int → Int, (∀ k, g k 0 = 0) → sumG g 0 (matRow n t.xs o) = sumT g (termsG n t.xs o) := fun o ho g hg => mat_sum h hl ho g hg
  have hrl : ∀ o, o < cnt → (matRow n t.xs o).length = (entries t.xs).toNat := fun o ho => mat_len h ho
  have hrb : ∀ o, ∀ x ∈ matRow n t.xs o, bd20 x := fun o => mat_bd h hl o
  obtain ⟨nd, nb, _, _, _⟩ := near_in h.node.near
  have hsz := (entries_bd t.xs).2
  have hmat : ∀ w', n.ok w' → t.ok w' → Calls Try.prog 66 #[n.valA, t.val] w' (MatPost w' n t.xs cnt) := fun w' h1 h2 => mat_all w' n sh s t cnt h hl h1 h2
  have hpos : 1 ≤ (entries t.xs).toNat := by have := (h.first hl).2; omega
  have hkind : n.kind = 3 ∨ n.kind = 4 ∨ n.kind = 5 := hl
  have hTbf : (∀ o, o < cnt → (termsG n t.xs o).length ≤ 64) ∧ ∀ o, o < cnt → ∀ s ∈ termsG n t.xs o, bd20 s.1 := by
    obtain ⟨F, P0, hL⟩ := h.lin hl
    exact ⟨(hL.terms w hto hno).few, (hL.terms w hto hno).bd⟩
  obtain ⟨va, hva⟩ := hao.base (by omega)
  have hvr : ∀ (R : Nat → Prop) w', (baseA w).holds R w' → RowsI w' (some va) 1 (ints a.xs) := fun R w' h => by rw [← hva]; exact rows_base h hao.rows
  clear hl
  have hlinC : ∀ w', Calls Try.prog 85 #[.int .i64 n.kind] w' fun e w'' => e = .returned (.bool true) ∧ Ext w' w'' := fun w' => by
    have := linear_any w' n.kind
    rw [decide_eq_true hkind] at this
    exact this
  refine calls_of tab tabOk Try.func55 rfl rfl rfl [] (fun _ => ⟨none, 0⟩) [.agg [.c (.int .i64 n.kind), .c (.int .i64 n.a), .c (.int .i64 n.b), .c n.shape.val, .c (.int .i64 n.lo), .c (.int .i64 n.hi), .c (.int .i64 n.size), .c n.data.val, .c n.bias.val], .c sv.val, .c (.slice kb kn.length kc)] [] (baseA w) 0 rfl rfl (by show 3 ≤ _; decide) (abs_base w) ?_
  (repeat' ((conv => whnf) <;> first | (show callK _ 85 _ _ _ _ _; refine call_pure (f := 85) Try.call85 (.bool true) (fun ρ w' hw => hlinC w') ?_) | (show idxK _ _ _ _ _; (first | refine idx_of ka n.a.toNat hkb hna hkl ?_ | refine idx_of sa n.a.toNat hsa hna htl ?_)) | (show roK _ _ _; (first | refine ro_row0 (fun R w' h => by rw [← hkb]; exact rows_base h hkr) _ _ hrowK rfl ?_ | refine ro_row0 (fun R w' h => by rw [← hsa]; exact rows_base h hs.rows) _ _ hrowT rfl ?_)) | (show callK _ 66 _ _ _ _ _; refine call_mat (f := 66) n t.xs cnt Try.call66 (fun ρ w' hw => hmat w' (holds_of_abs hw fun R h => hno.later h) (holds_of_abs hw fun R h => hto.later h)) (fun x hx => ?_)) | (show drawK _ 7 _ _ _ _ _ _; refine draw_tree tabOk mixed [] _ dtJP0 (by kernel_rfl) (by kernel_rfl) (by kernel_rfl) (List.Sublist.refl _) ?_) | (show drawK _ _ _ _ _ _ _ _; refine draw_quiet tabOk mixed (by kernel_rfl) ?_) | (show Wp _ _ _ _ _ _ _; refine Wp.go tabOk rfl ?_) | (show @cmpK _ _ _; (first | refine cmpY ?_ | refine cmpN ?_ | (refine cmp_both ?_ ?_ <;> intro _))) | (show wrapK _ _ _; refine wrapA ?_) | (show leK _ _ _; refine leA ?_) | (show roomK _ _ _; refine roomA ?_) | (show ltK _ _ _; refine ltA ?_) | (show _ ∧ _; refine ⟨?_, ?_⟩) | (show keepK _ _ _ _ _; refine keepA ?_) | refine own_keep ?_ | refine ap_old ?_))
  all_goals (conv => whnf)
  have hxc := hx.count
  refine Wp.know (p := ∃ a, x.rows.base = some a) (fun ρ w' hw => holds_of_abs hw fun R h => base_some (j := 0) (rowsA_in h.2.1) (by rw [shRows_length]; omega)) ?_
  rintro ⟨xa, hxa⟩
  refine Wp.know (p := ∃ a, x.bias.base = some a) (fun ρ w' hw => holds_of_abs hw fun R h => (hx.biasOk (w := w) (hno.later h.1) h.2).base (by rw [hx.bias]; simp [matBias]; omega)) ?_
  rintro ⟨ba, hba⟩
  have hxr : ∀ (R : Nat → Prop) w', ((baseA w).and ((matD x).past w.heap.size)).holds R w' → RowsI w' (some xa) 1 (shRows x.rows.l) := fun R w' h => by rw [← hxa]; exact rowsA_in h.2.1
  have hxb : ∀ (R : Nat → Prop) w', ((baseA w).and ((matD x).past w.heap.size)).holds R w' → RowsI w' (some ba) 1 (ints x.bias.xs) := fun R w' h => by rw [← hba]; exact (hx.biasOk (w := w) (hno.later h.1) h.2).rows
  refine Wp.loop (σ := Nat) 2 (fun o => [(7, .c a.val), (8, .os 1 o), (10, .c x.bias.val), (42, .c x.rows.val), (43, .c (.int .i64 cnt)), (44, .c (.int .i64 o))]) (fun o => [(1, .rows (ints (numsLin n cnt o (termsG n t.xs) a.xs)) 1 3)]) (fun _ => (baseA w).and ((matD x).past w.heap.size))
    (fun o => o ≤ cnt) (fun o => cnt - o) 0 [(1, none)] (by decide) (fun s => ⟨rfl, rfl⟩) (Nat.zero_le _) ⟨rfl, ⟨rfl, rfl, rfl, rfl, ?_, rfl, trivial⟩, ⟨rfl, trivial⟩, fun _ _ h => h⟩ ?_
  · rw [← hxc]; rfl
  rintro o ho
  have hlen : (numsLin n cnt o (termsG n t.xs) a.xs).length = o := by simp [numsLin]
  by_cases hlo : o < cnt
  · have hlx : o < x.rows.l.length := by omega
    obtain ⟨_, hu, hbl, hbv⟩ := hx.row hlx
    have hsn : numsLin n cnt (o + 1) (termsG n t.xs) a.xs = numsLin n cnt o (termsG n t.xs) a.xs ++ [(termsG n t.xs o).foldl (fNum a.xs) (biasI n cnt o)] := by unfold numsLin; rw [List.range_succ, List.map_append]; rfl
    have hbd := bias_bd nb cnt o
    have hrow := shRows_get hlx
    have hum := List.getElem_mem hlx
    have hul := hrl o hlo
    have hub := hrb o
    have hsu := hsums o hlo
    generalize x.rows.l[o] = u at *
    rw [← hu] at hul hub hsu
    refine Wp.know (p := ∃ a, u.base = some a) (fun ρ w' hw => holds_of_abs hw fun R h => (hx.rowsOk (w := w) (hno.later h.1) h.2 u hum).base (by omega)) ?_
    rintro ⟨ua, hua⟩
    have hur : ∀ (R : Nat → Prop) w', ((baseA w).and ((matD x).past w.heap.size)).holds R w' → RowsI w' (some ua) 1 (ints u.xs) := fun R w' h => by rw [← hua]; exact (hx.rowsOk (w := w) (hno.later h.1) h.2 u hum).rows
    have hul64 : u.xs.length ≤ 64 := by omega
    have hula : u.xs.length = a.xs.length := by omega
    (repeat' ((conv => whnf) <;> first | (show idxK _ _ _ _ _; (first | refine idx_of xa o hxa rfl hlx ?_ | refine idx_of ba o hba rfl (by omega) ?_)) | (show roK _ _ _; (first | refine ro_row0 hxr _ _ hrow rfl ?_ | refine ro_intv hxb (j := o) (by omega) hbv ?_)) | (show drawK _ _ _ _ _ _ _ _; refine draw_quiet tabOk mixed (by kernel_rfl) ?_) | (show Wp _ _ _ _ _ _ _; refine Wp.go tabOk rfl ?_) | (show @cmpK _ _ _; (first | refine cmpY ?_ | refine cmpN ?_ | (refine cmp_both ?_ ?_ <;> intro _))) | (show wrapK _ _ _; refine wrapA ?_) | (show leK _ _ _; refine leA ?_) | (show roomK _ _ _; refine roomA ?_) | (show ltK _ _ _; refine ltA ?_) | (show _ ∧ _; refine ⟨?_, ?_⟩) | (show keepK _ _ _ _ _; refine keepA ?_) | refine own_keep ?_ | refine ap_old ?_))
    all_goals (conv => whnf)
    refine Wp.loop (σ := Nat × Int) 2 (fun ⟨j, v⟩ => [(7, .c a.val), (8, .os 1 o), (10, .c x.bias.val), (42, .c x.rows.val), (43, .c (.int .i64 cnt)), (44, .c (.int .i64 o)), (13, .c (.int .i64 v)), (53, .c u.val), (54, .c (.int .i64 u.xs.length)), (55, .c (.int .i64 j))]) (fun _ => [(1, .rows (ints (numsLin n cnt o (termsG n t.xs) a.xs)) 1 3)]) (fun _ => (baseA w).and ((matD x).past w.heap.size))
      (fun ⟨j, v⟩ => j ≤ u.xs.length ∧ v = biasI n cnt o + sumG (gNum a.xs) 0 (u.xs.take j)) (fun s => u.xs.length - s.1) (0, biasI n cnt o) [] (by decide) (fun s => ⟨rfl, rfl⟩) ⟨Nat.zero_le _, by simp [sumG]⟩ ⟨rfl, ⟨rfl, rfl, rfl, rfl, rfl, rfl, rfl, rfl, rfl, rfl, trivial⟩, ⟨(by repeat (first | exact List.mem_cons_self | apply List.mem_cons_of_mem)), trivial⟩, fun _ _ h => h⟩ ?_
    rintro ⟨j, v⟩ ⟨hj, hvv⟩
    by_cases hjl : j < u.xs.length
    · have s1 := sumG_snoc (gNum a.xs) hjl
      have hG1 : ∀ k z, z ∈ u.xs → -1099511627776 ≤ gNum a.xs k z ∧ gNum a.xs k z ≤ 1099511627776 := fun k z hz => mul_bd (A := 1048576) (B := 1048576) (hub z hz) (getD_bd hab k)
      have b1 := sumG_bd40 (gNum a.xs) (l := u.xs) (j := j) (by omega) hG1
      have hv : bd20 (u.xs.getD j 0) := getD_bd hub j
      have hv2 : bd20 (a.xs.getD j 0) := getD_bd hab j
      have q1 := mul_bd (A := 1048576) (B := 1048576) hv hv2
      have e1 := gNum_at (av := a.xs) (r := u.xs) (j := j)
      clear hG1 hsu hrl hsums hsn
      unfold bd20 at hbd
      (repeat' ((conv => whnf) <;> first | (show idxK _ _ _ _ _; (first | refine idx_of ua j hua rfl hjl ?_ | refine idx_of va j hva rfl (by omega) ?_)) | (show roK _ _ _; (first | refine ro_int hur (j := j) hjl ?_ | refine ro_int (fun R w' h => hvr R w' h.1) (j := j) (by omega) ?_)) | (show drawK _ _ _ _ _ _ _ _; refine draw_quiet tabOk mixed (by kernel_rfl) ?_) | (show Wp _ _ _ _ _ _ _; refine Wp.go tabOk rfl ?_) | (show @cmpK _ _ _; (first | refine cmpY ?_ | refine cmpN ?_ | (refine cmp_both ?_ ?_ <;> intro _))) | (show wrapK _ _ _; refine wrapA ?_) | (show leK _ _ _; refine leA ?_) | (show roomK _ _ _; refine roomA ?_) | (show ltK _ _ _; refine ltA ?_) | (show _ ∧ _; refine ⟨?_, ?_⟩) | (show keepK _ _ _ _ _; refine keepA ?_) | refine own_keep ?_ | refine ap_old ?_))
      all_goals (conv => whnf)
      all_goals exact ⟨(j + 1, _), [], ⟨hjl, by rw [s1]; omega⟩, by simp only; omega, rfl, ⟨rfl, rfl, rfl, rfl, rfl, rfl, rfl, rfl, rfl, rfl, trivial⟩, ⟨(by repeat (first | exact List.mem_cons_self | apply List.mem_cons_of_mem)), trivial⟩, fun _ _ h => h⟩
    · have hjz : j = u.xs.length := Nat.le_antisymm hj (Nat.not_lt.1 hjl)
      subst hjz
      rw [List.take_of_length_le (Nat.le_refl _), hsu _ (gNum_zero a.xs), ← foldl_num] at hvv
      (repeat' ((conv => whnf) <;> first | (show leK _ _ _; (refine le_of (by rw [ints_length, hlen]; exact Nat.le_refl _) ?_)) | (show roomK _ _ _; (refine room_of (by show (o + 1) * 8 ≤ 140737488355328; omega) ?_)) | (show drawK _ _ _ _ _ _ _ _; refine draw_quiet tabOk mixed (by kernel_rfl) ?_) | (show Wp _ _ _ _ _ _ _; refine Wp.go tabOk rfl ?_) | (show @cmpK _ _ _; (first | refine cmpY ?_ | refine cmpN ?_ | (refine cmp_both ?_ ?_ <;> intro _))) | (show wrapK _ _ _; refine wrapA ?_) | (show leK _ _ _; refine leA ?_) | (show roomK _ _ _; refine roomA ?_) | (show ltK _ _ _; refine ltA ?_) | (show _ ∧ _; refine ⟨?_, ?_⟩) | (show keepK _ _ _ _ _; refine keepA ?_) | refine own_keep ?_ | refine ap_old ?_))
      all_goals (conv => whnf)
      exact ⟨o + 1, [(1, some 3)], hlo, by omega, rfl, ⟨rfl, rfl, rfl, rfl, rfl, rfl, trivial⟩, ⟨by
        show (3, Ent.rows (ints (numsLin n cnt (o + 1) (termsG n t.xs) a.xs)) 1 3) ∈ _
        rw [hsn, ← hvv]; exact ints_snocM _ _ hlen.symm, trivial⟩, fun _ _ h => h⟩
  · have hoz : o = cnt := Nat.le_antisymm ho (Nat.not_lt.1 hlo)
    subst hoz
    (repeat' ((conv => whnf) <;> first | (show drawK _ _ _ _ _ _ _ _; refine draw_quiet tabOk mixed (by kernel_rfl) ?_) | (show Wp _ _ _ _ _ _ _; refine Wp.go tabOk rfl ?_) | (show @cmpK _ _ _; (first | refine cmpY ?_ | refine cmpN ?_ | (refine cmp_both ?_ ?_ <;> intro _))) | (show wrapK _ _ _; refine wrapA ?_) | (show leK _ _ _; refine leA ?_) | (show roomK _ _ _; refine roomA ?_) | (show ltK _ _ _; refine ltA ?_) | (show _ ∧ _; refine ⟨?_, ?_⟩) | (show keepK _ _ _ _ _; refine keepA ?_) | refine own_keep ?_ | refine ap_old ?_))
    all_goals (conv => whnf)
    refine eends_new (B := ⟨w, []⟩) (S := (baseA w).and ((matD x).past w.heap.size)) (fun _ _ h => h.1) rfl (by repeat (first | exact List.mem_cons_self | apply List.mem_cons_of_mem)) hlen.symm (fun z hz => ?_) (by omega)
    obtain ⟨q, hq, rfl⟩ := List.mem_map.1 hz
    rw [List.mem_range] at hq
    have g := num_bd hab (l := termsG n t.xs q) (s := biasI n o q) (hTbf.2 q hq)
    have gf := hTbf.1 q hq
    have gb := bias_bd nb o q
    unfold bd20 at gb
    unfold i64
    omega
end Go.Proofs.Ytdmkdogakbipbaa

/- JR -/
namespace Go.Proofs.Ytdmkdogakbipbaa
open Go.SX Go.RowKit
def rpts (d : List Int) (a : Sp) : Nat → List Int
  | 0 => []
  | k + 1 => rpts d a k ++ (if a.1 ≤ turnI d + ((k : Int) - 2) ∧ turnI d + ((k : Int) - 2) ≤ a.2 then [powI d (turnI d + ((k : Int) - 2))] else [])
theorem mem_rpts {d : List Int} {a : Sp} {x : Int} : ∀ {m : Nat}, x ∈ rpts d a m ↔ ∃ k, k < m ∧ (a.1 ≤ turnI d + ((k : Int) - 2) ∧ turnI d + ((k : Int) - 2) ≤ a.2) ∧ x = powI d (turnI d + ((k : Int) - 2))
  | 0 => by simp [rpts]
  | m + 1 => by
    unfold rpts
    rw [List.mem_append, mem_rpts]
    constructor
    · rintro (⟨k, h1, h2⟩ | h)
      · exact ⟨k, by omega, h2⟩
      · split at h
        · rename_i hc
          exact ⟨m, by omega, hc, by simpa using h⟩
        · simp at h
    · rintro ⟨k, h1, h2, h3⟩
      rcases Nat.lt_or_ge k m with hk | hk
      · exact .inl ⟨k, hk, h2, h3⟩
      · obtain rfl : k = m := by omega
        right
        rw [if_pos h2, h3]
        simp
theorem rpts_len (d : List Int) (a : Sp) : ∀ m, (rpts d a m).length ≤ m
  | 0 => by simp [rpts]
  | m + 1 => by
    have := rpts_len d a m
    unfold rpts
    rw [List.length_append]
    split <;> simp <;> omega
def rends (d : List Int) (a : Sp) : List Int := [powI d a.1, powI d a.2] ++ rpts d a 5
theorem pow_sub {d : List Int} {a : Sp} (hz : d.getD 2 0 ≠ 0) {x : Int} (h : x ∈ powEnds d a) : x ∈ rends d a := by
  unfold powEnds at h
  rw [if_neg hz] at h
  unfold rends
  rcases List.mem_append.1 h with h | h
  · exact List.mem_append_left _ h
  · refine List.mem_append_right _ (mem_rpts.2 ?_)
    obtain ⟨v, hv, rfl⟩ := List.mem_map.1 h
    rw [mem_ptsL] at hv
    unfold hiI loI at hv
    refine ⟨(v - turnI d + 2).toNat, by omega, ?_⟩
    have e : turnI d + (((v - turnI d + 2).toNat : Int) - 2) = v := by omega
    rw [e]
    exact ⟨⟨by omega, by omega⟩, rfl⟩
theorem pow_span {d : List Int} {a : Sp} (hz : d.getD 2 0 ≠ 0) : spanE (rends d a) = spanE (powEnds d a) := by
  have hl1 : 1 ≤ (rends d a).length := by simp [rends]
  have hl2 : 1 ≤ (powEnds d a).length := List.length_pos_of_mem powEnds_lo
  have key : ∀ x ∈ rends d a, foldI min (powEnds d a) ≤ x ∧ x ≤ foldI max (powEnds d a) := fun x hx => by
    unfold rends at hx
    rcases List.mem_append.1 hx with hx | hx
    · simp only [List.mem_cons, List.not_mem_nil, or_false] at hx
      rcases hx with rfl | rfl
      · exact ⟨foldI_min_le powEnds_lo, foldI_max_ge powEnds_lo⟩
      · exact ⟨foldI_min_le powEnds_hi, foldI_max_ge powEnds_hi⟩
    · obtain ⟨k, _, h2, rfl⟩ := mem_rpts.1 hx
      exact pow_within h2.1 h2.2
  unfold spanE
  rw [Prod.mk.injEq]
  exact ⟨Int.le_antisymm (foldI_min_le (pow_sub hz (foldI_min_mem hl2))) (key _ (foldI_min_mem hl1)).1, Int.le_antisymm (key _ (foldI_max_mem hl1)).2 (foldI_max_ge (pow_sub hz (foldI_max_mem hl2)))⟩
theorem endsL_pow {n : NodeV} (hk : n.kind = 8) (a b : Sp) : endsL n a b = powEnds n.data.xs a := by
  unfold endsL powEnds
  rw [if_neg (by omega), if_neg (by omega), if_neg (by omega), if_neg (by omega), if_pos hk]
theorem powI_fit {d : List Int} (hd : ∀ x ∈ d, bd20 x) {v : Int} (hv : bd20 v) : i64 (powI d v) := by
  have h := pow_bd (getD_bd hd 2) (getD_bd hd 1) (getD_bd hd 0) hv
  have h0 := getD_bd hd 0
  unfold bd20 at h0
  unfold powI i64
  omega
theorem div_q {x y q : Int} {K : Int → Prop} (e : x.tdiv y = q) (hy : y ≠ 0) (hx : -4611686018427387904 ≤ x ∧ x ≤ 4611686018427387904) (h : K q) : divK .i64 x y K := by
  subst e; exact div_i64 hy hx h
set_option maxRecDepth 20000 in
set_option maxHeartbeats 4000000 in
theorem span_pow (w : World) (n : NodeV) (sv : ShapesV) (b2 : Option Addr) (c2 : Nat) (acc : List Sp) (b : Sp) (hk : n.kind = 8) (hno : n.ok w) (nd : ∀ x ∈ n.data.xs, bd20 x) (h8 : n.data.xs.length = 3) (ha0 : 0 ≤ n.a) (hacc : RowsI w b2 2 (spRows acc)) (hlt : n.a.toNat < acc.length) (hbd : bd20 (acc.getD n.a.toNat (0, 0)).1 ∧ bd20 (acc.getD n.a.toNat (0, 0)).2) : Calls Try.prog 84 #[n.valA, sv.val, .slice b2 acc.length c2] w fun e w' => e = .returned (spanV (spanE (endsL n (acc.getD n.a.toNat (0, 0)) b))) ∧ Ext w w' := by
  have hlinC : ∀ w', Calls Try.prog 85 #[.int .i64 n.kind] w' fun e w'' => e = .returned (.bool false) ∧ Ext w' w'' := fun w' => lin_no w' (by omega)
  have hna : n.a = (n.a.toNat : Int) := (Int.toNat_of_nonneg ha0).symm
  have hd := hno.data
  obtain ⟨a2, ha2⟩ : ∃ a, b2 = some a := base_some (j := n.a.toNat) hacc (by rw [spRows_length]; exact hlt)
  obtain ⟨ua, hua⟩ := hd.base (by omega)
  have hur : ∀ (R : Nat → Prop) w', (baseA w).holds R w' → RowsI w' (some ua) 1 (ints n.data.xs) := fun R w' h => by rw [← hua]; exact rows_base h hd.rows
  have hrowA := spRows_getD hlt
  rw [endsL_pow hk]
  generalize acc.getD n.a.toNat (0, 0) = a at *
  obtain ⟨p1, p2⟩ := hbd
  have g0 := getD_bd nd 0
  have g1 := getD_bd nd 1
  have g2 := getD_bd nd 2
  have hpw : ∀ v, powI n.data.xs v = n.data.xs.getD 2 0 * v * v + n.data.xs.getD 1 0 * v + n.data.xs.getD 0 0 := fun _ => rfl
  have hfit : ∀ v, bd20 v → i64 (powI n.data.xs v) := fun v hv => powI_fit nd hv
  have hps := pow_span (d := n.data.xs) (a := a)
  have hrl := rpts_len n.data.xs a
  have hT : turnI n.data.xs = (0 - n.data.xs.getD 1 0).tdiv (2 * n.data.xs.getD 2 0) := rfl
  have hTb : -1048576 ≤ turnI n.data.xs ∧ turnI n.data.xs ≤ 1048576 := by
    have h1 : ((0 - n.data.xs.getD 1 0).tdiv (2 * n.data.xs.getD 2 0)).natAbs ≤ (0 - n.data.xs.getD 1 0).natAbs := by rw [Int.natAbs_tdiv]; exact Nat.div_le_self _ _
    rw [hT]
    unfold bd20 at g1
    omega
  generalize hd0 : n.data.xs.getD 0 0 = d0 at *
  generalize hd1 : n.data.xs.getD 1 0 = d1 at *
  generalize hd2 : n.data.xs.getD 2 0 = d2 at *
  have hpc : ∀ v w', bd20 v → Calls Try.prog 86 #[.int .i64 d0, .int .i64 d1, .int .i64 d2, .int .i64 v] w' fun e w'' => e = .returned (.int .i64 (powI n.data.xs v)) ∧ Ext w' w'' := fun v w' hv => by rw [hpw]; exact rpower_any w' d0 d1 d2 v g0 g1 g2 hv
  have hpe : ∀ hz : d2 = 0, powEnds n.data.xs a = [powI n.data.xs a.1, powI n.data.xs a.2] := fun hz => by unfold powEnds; rw [hd2, if_pos hz]
  clear hpw
  refine calls_of tab tabOk Try.func84 rfl rfl rfl [] (fun _ => ⟨none, 0⟩) [.agg [.c (.int .i64 n.kind), .c (.int .i64 n.a), .c (.int .i64 n.b), .c n.shape.val, .c (.int .i64 n.lo), .c (.int .i64 n.hi), .c (.int .i64 n.size), .c n.data.val, .c n.bias.val], .c sv.val, .c (.slice b2 acc.length c2)] [] (baseA w) 0 rfl rfl (by show 3 ≤ _; decide) (abs_base w) ?_
  by_cases hz : d2 = 0
  · rw [hpe hz]
    (repeat' ((conv => whnf) <;> first | (show callK _ 85 _ _ _ _ _; refine call_pure (f := 85) Try.call85 (.bool false) (fun ρ w' hw => hlinC w') ?_) | (show idxK _ _ _ _ _; (first | refine idx_of a2 n.a.toNat ha2 hna hlt ?_ | refine idx_of ua 0 hua rfl (by omega) ?_ | refine idx_of ua 1 hua rfl (by omega) ?_ | refine idx_of ua 2 hua rfl (by omega) ?_)) | (show roAggK _ _ _ _; (refine roAgg_row (fun R w' h => by rw [← ha2]; exact rows_base h hacc) _ hrowA rfl ?_)) | (show roK _ _ _; (first | refine ro_intv hur (j := 0) (by omega) hd0 ?_ | refine ro_intv hur (j := 1) (by omega) hd1 ?_ | refine ro_intv hur (j := 2) (by omega) hd2 ?_)) | (show callK _ 86 [.c (.int .i64 d0), .c (.int .i64 d1), .c (.int .i64 d2), .c (.int .i64 a.1)] _ _ _ _; refine call_pure (f := 86) Try.call86 (.int .i64 (powI n.data.xs a.1)) (fun ρ w' hw => hpc a.1 w' p1) ?_) | (show callK _ 86 [.c (.int .i64 d0), .c (.int .i64 d1), .c (.int .i64 d2), .c (.int .i64 a.2)] _ _ _ _; refine call_pure (f := 86) Try.call86 (.int .i64 (powI n.data.xs a.2)) (fun ρ w' hw => hpc a.2 w' p2) ?_) | (show ownK _ _ _ _ _; (refine freeze_intsI (w0 := w) [powI n.data.xs a.1, powI n.data.xs a.2] (fun R w' h => h) rfl rfl (fun x hx => by simp only [List.mem_cons, List.not_mem_nil, or_false] at hx; rcases hx with rfl | rfl; exact hfit _ p1; exact hfit _ p2) (by simp) (fun u hu hus => ?_))) | (show callK _ 108 _ _ _ _ _; (refine call_pure (f := 108) Try.call108 (spanV (spanE [powI n.data.xs a.1, powI n.data.xs a.2])) (fun ρ w' hw => hu ▸ cover_any w' u (holds_of_abs hw fun R h => intsA_ok hus ((intsA u).mono h.2 (fun b hb => hb.1))) (by rw [hu]; simp)) ?_)) | (show drawK _ 28 _ _ _ _ _ _; refine draw_tree tabOk mixed [16] _ dtJP1 (by kernel_rfl) (by kernel_rfl) (by kernel_rfl) (List.Sublist.refl _) ?_) | (show drawK _ 31 _ _ _ _ _ _; refine draw_tree tabOk mixed [] _ dtJP2 (by kernel_rfl) (by kernel_rfl) (by kernel_rfl) (List.Sublist.refl _) ?_) | (show drawK _ _ _ _ _ _ _ _; refine draw_quiet tabOk mixed (by kernel_rfl) ?_) | (show Wp _ _ _ _ _ _ _; refine Wp.go tabOk rfl ?_) | (show @cmpK _ _ _; (first | refine cmpY ?_ | refine cmpN ?_ | (refine cmp_both ?_ ?_ <;> intro _))) | (show wrapK _ _ _; refine wrapA ?_) | (show leK _ _ _; refine leA ?_) | (show roomK _ _ _; refine roomA ?_) | (show ltK _ _ _; refine ltA ?_) | (show _ ∧ _; refine ⟨?_, ?_⟩) | (show keepK _ _ _ _ _; refine keepA ?_) | refine own_keep ?_ | refine ap_old ?_))
    all_goals (conv => whnf)
    all_goals exact ends_of (fun _ _ h => h.1) (fun _ => rfl) rfl
  · rw [← hps hz]
    (repeat' ((conv => whnf) <;> first | (show callK _ 85 _ _ _ _ _; refine call_pure (f := 85) Try.call85 (.bool false) (fun ρ w' hw => hlinC w') ?_) | (show idxK _ _ _ _ _; (first | refine idx_of a2 n.a.toNat ha2 hna hlt ?_ | refine idx_of ua 0 hua rfl (by omega) ?_ | refine idx_of ua 1 hua rfl (by omega) ?_ | refine idx_of ua 2 hua rfl (by omega) ?_)) | (show roAggK _ _ _ _; (refine roAgg_row (fun R w' h => by rw [← ha2]; exact rows_base h hacc) _ hrowA rfl ?_)) | (show roK _ _ _; (first | refine ro_intv hur (j := 0) (by omega) hd0 ?_ | refine ro_intv hur (j := 1) (by omega) hd1 ?_ | refine ro_intv hur (j := 2) (by omega) hd2 ?_)) | (show callK _ 86 [.c (.int .i64 d0), .c (.int .i64 d1), .c (.int .i64 d2), .c (.int .i64 a.1)] _ _ _ _; refine call_pure (f := 86) Try.call86 (.int .i64 (powI n.data.xs a.1)) (fun ρ w' hw => hpc a.1 w' p1) ?_) | (show callK _ 86 [.c (.int .i64 d0), .c (.int .i64 d1), .c (.int .i64 d2), .c (.int .i64 a.2)] _ _ _ _; refine call_pure (f := 86) Try.call86 (.int .i64 (powI n.data.xs a.2)) (fun ρ w' hw => hpc a.2 w' p2) ?_) | (show drawK _ 28 _ _ _ _ _ _; refine draw_tree tabOk mixed [16] _ dtJP1 (by kernel_rfl) (by kernel_rfl) (by kernel_rfl) (List.Sublist.refl _) ?_) | (show drawK _ 31 _ _ _ _ _ _; refine draw_tree tabOk mixed [] _ dtJP2 (by kernel_rfl) (by kernel_rfl) (by kernel_rfl) (List.Sublist.refl _) ?_) | (show drawK _ _ _ _ _ _ _ _; refine draw_quiet tabOk mixed (by kernel_rfl) ?_) | (show Wp _ _ _ _ _ _ _; refine Wp.go tabOk rfl ?_) | (show @cmpK _ _ _; (first | refine cmpY ?_ | refine cmpN ?_ | (refine cmp_both ?_ ?_ <;> intro _))) | (show wrapK _ _ _; refine wrapA ?_) | (show leK _ _ _; refine leA ?_) | (show roomK _ _ _; refine roomA ?_) | (show ltK _ _ _; refine ltA ?_) | (show _ ∧ _; refine ⟨?_, ?_⟩) | (show keepK _ _ _ _ _; refine keepA ?_) | refine own_keep ?_ | refine ap_old ?_))
    all_goals (conv => whnf)
    have p1' := p1
    have p2' := p2
    unfold bd20 at p1' p2' g1 g2
    refine Wp.loop (σ := Nat × Int × Nat) 5 (fun ⟨k, d, m⟩ => [(6, .lp 1 0 0 0), (7, .lp 2 0 0 0), (18, .c (.int .i64 d0)), (19, .c (.int .i64 d1)), (20, .c (.int .i64 d2)), (21, .os 4 m), (22, .c (.int .i64 d))]) (fun ⟨k, d, m⟩ => [(4, .rows (ints ([powI n.data.xs a.1, powI n.data.xs a.2] ++ rpts n.data.xs a k)) 1 3), (2, .box [.c (.int .i64 a.1), .c (.int .i64 a.2)] 68), (1, .box [.c (.int .i64 0), .c (.int .i64 0)] 68)]) (fun _ => baseA w)
      (fun ⟨k, d, m⟩ => k ≤ 5 ∧ d = (k : Int) - 2 ∧ m = ([powI n.data.xs a.1, powI n.data.xs a.2] ++ rpts n.data.xs a k).length) (fun s => 5 - s.1) (0, -2, 2) [(4, some 3)] (by decide) (fun s => ⟨rfl, rfl⟩) ⟨by decide, rfl, rfl⟩ ⟨rfl, ⟨rfl, rfl, rfl, rfl, rfl, rfl, rfl, trivial⟩, ⟨(by repeat (first | exact List.mem_cons_self | apply List.mem_cons_of_mem)), (by repeat (first | exact List.mem_cons_self | apply List.mem_cons_of_mem)), (by repeat (first | exact List.mem_cons_self | apply List.mem_cons_of_mem)), trivial⟩, fun _ _ h => h⟩ ?_
    rintro ⟨k, d, m⟩ ⟨hk5, hdk, hm⟩
    have hrl2 := hrl k
    by_cases hkl : k < 5
    · have hrs : rpts n.data.xs a (k + 1) = rpts n.data.xs a k ++ (if a.1 ≤ turnI n.data.xs + d ∧ turnI n.data.xs + d ≤ a.2 then [powI n.data.xs (turnI n.data.xs + d)] else []) := by rw [hdk]; rfl
      have hm7 : m ≤ 7 := by rw [hm]; simp; omega
      (repeat' ((conv => whnf) <;> first | (show divK _ _ _ _; refine div_q hT.symm (by omega) (by omega) ?_) | (show callK _ 86 _ _ _ _ _; refine call_pure (f := 86) Try.call86 (.int .i64 (powI n.data.xs (turnI n.data.xs + d))) (fun ρ w' hw => hpc (turnI n.data.xs + d) w' ⟨by omega, by omega⟩) ?_) | (show leK _ _ _; (refine le_of (by rw [ints_length, hm]; exact Nat.le_refl _) ?_)) | (show roomK _ _ _; (refine room_of (by show (m + 1) * 8 ≤ 140737488355328; omega) ?_)) | (show drawK _ 28 _ _ _ _ _ _; refine draw_tree tabOk mixed [16] _ dtJP1 (by kernel_rfl) (by kernel_rfl) (by kernel_rfl) (List.Sublist.refl _) ?_) | (show drawK _ 31 _ _ _ _ _ _; refine draw_tree tabOk mixed [] _ dtJP2 (by kernel_rfl) (by kernel_rfl) (by kernel_rfl) (List.Sublist.refl _) ?_) | (show drawK _ _ _ _ _ _ _ _; refine draw_quiet tabOk mixed (by kernel_rfl) ?_) | (show Wp _ _ _ _ _ _ _; refine Wp.go tabOk rfl ?_) | (show @cmpK _ _ _; (first | refine cmpY ?_ | refine cmpN ?_ | (refine cmp_both ?_ ?_ <;> intro _))) | (show wrapK _ _ _; refine wrapA ?_) | (show leK _ _ _; refine leA ?_) | (show roomK _ _ _; refine roomA ?_) | (show ltK _ _ _; refine ltA ?_) | (show _ ∧ _; refine ⟨?_, ?_⟩) | (show keepK _ _ _ _ _; refine keepA ?_) | refine own_keep ?_ | refine ap_old ?_))
      all_goals (conv => whnf)
      all_goals first | exact ⟨(k + 1, _, m + 1), [(4, some 6)], ⟨hkl, by omega, by rw [hrs, if_pos ⟨by omega, by omega⟩, ← List.append_assoc, List.length_append, ← hm]; rfl⟩, by simp only; omega, rfl, ⟨rfl, rfl, rfl, rfl, rfl, rfl, rfl, trivial⟩, ⟨by
        show (6, Ent.rows (ints ([powI n.data.xs a.1, powI n.data.xs a.2] ++ rpts n.data.xs a (k + 1))) 1 3) ∈ _
        rw [hrs, if_pos ⟨by omega, by omega⟩, ← List.append_assoc]; exact ints_snocM _ _ hm, (by repeat (first | exact List.mem_cons_self | apply List.mem_cons_of_mem)), (by repeat (first | exact List.mem_cons_self | apply List.mem_cons_of_mem)), trivial⟩, fun _ _ h => h⟩ | exact ⟨(k + 1, _, m), [(4, some 4)], ⟨hkl, by omega, by rw [hrs, if_neg (by omega), List.append_nil]; exact hm⟩, by simp only; omega, rfl, ⟨rfl, rfl, rfl, rfl, rfl, rfl, rfl, trivial⟩, ⟨by
        show (4, Ent.rows (ints ([powI n.data.xs a.1, powI n.data.xs a.2] ++ rpts n.data.xs a (k + 1))) 1 3) ∈ _
        rw [hrs, if_neg (by omega), List.append_nil]; exact (by repeat (first | exact List.mem_cons_self | apply List.mem_cons_of_mem)), (by repeat (first | exact List.mem_cons_self | apply List.mem_cons_of_mem)), (by repeat (first | exact List.mem_cons_self | apply List.mem_cons_of_mem)), trivial⟩, fun _ _ h => h⟩
    · have hkz : k = 5 := by omega
      subst hkz
      subst hm
      refine Wp.freezeN 4 w.heap.size (k := 1) (xs := ints (rends n.data.xs a)) (T := 3) (by repeat (first | exact List.mem_cons_self | apply List.mem_cons_of_mem)) (fun R w' h b hb => (h b hb).1) (fun l1 hl1 => ?_)
      rw [ints_length] at hl1
      have hfits : ∀ x ∈ rends n.data.xs a, i64 x := fun x hx => by
        unfold rends at hx
        rcases List.mem_append.1 hx with hx | hx
        · simp only [List.mem_cons, List.not_mem_nil, or_false] at hx
          rcases hx with rfl | rfl
          · exact hfit _ p1
          · exact hfit _ p2
        · obtain ⟨k, _, h2, rfl⟩ := mem_rpts.1 hx
          exact hfit _ ⟨by omega, by omega⟩
      (repeat' ((conv => whnf) <;> first | (show callK _ 108 _ _ _ _ _; (refine call_pure (f := 108) Try.call108 (spanV (spanE (rends n.data.xs a))) (fun ρ w' hw => cover_any w' ⟨l1.base, l1.cap, rends n.data.xs a⟩ (holds_of_abs hw fun R h => ⟨rowsA_in h.2, hfits, hl1, by simp only [rends]; simp; omega⟩) (by simp [rends])) ?_)) | (show drawK _ 28 _ _ _ _ _ _; refine draw_tree tabOk mixed [16] _ dtJP1 (by kernel_rfl) (by kernel_rfl) (by kernel_rfl) (List.Sublist.refl _) ?_) | (show drawK _ 31 _ _ _ _ _ _; refine draw_tree tabOk mixed [] _ dtJP2 (by kernel_rfl) (by kernel_rfl) (by kernel_rfl) (List.Sublist.refl _) ?_) | (show drawK _ _ _ _ _ _ _ _; refine draw_quiet tabOk mixed (by kernel_rfl) ?_) | (show Wp _ _ _ _ _ _ _; refine Wp.go tabOk rfl ?_) | (show @cmpK _ _ _; (first | refine cmpY ?_ | refine cmpN ?_ | (refine cmp_both ?_ ?_ <;> intro _))) | (show wrapK _ _ _; refine wrapA ?_) | (show leK _ _ _; refine leA ?_) | (show roomK _ _ _; refine roomA ?_) | (show ltK _ _ _; refine ltA ?_) | (show _ ∧ _; refine ⟨?_, ?_⟩) | (show keepK _ _ _ _ _; refine keepA ?_) | refine own_keep ?_ | refine ap_old ?_))
      all_goals (conv => whnf)
      all_goals exact ends_of (fun _ _ h => h.1) (fun _ => rfl) rfl
end Go.Proofs.Ytdmkdogakbipbaa

/- JW -/
namespace Go.Proofs.Ytdmkdogakbipbaa
open Go.SX Go.RowKit
set_option maxRecDepth 20000 in
set_option maxHeartbeats 4000000 in
theorem values_plain (w : World) (n : NodeV) (sv : ShapesV) (kb : Option Addr) (kc : Nat) (kn : List IntsV) (hkr : RowsI w kb 1 (shRows kn)) (a b : IntsV) (cnt : Nat) (h : NumsOk w n cnt a b) (hno : n.ok w) (ha0 : 0 ≤ n.a) (hb0 : 0 ≤ n.b) (h1 : 1 ≤ cnt) (hka : n.kind ≠ 2 → kn[n.a.toNat]? = some a) (hkb : n.kind = 6 → kn[n.b.toNat]? = some b) : Calls Try.prog 55 #[n.valA, sv.val, .slice kb kn.length kc] w (EndsPost w n (numsL n cnt a.xs b.xs)) := by
  have hbd := numAt_bd h
  obtain ⟨hk, hfew, hd, hdb, hco, hsc, hpo, ha, hb, hal, hbl, hab, hbb⟩ := h
  have hlinC : ∀ w', Calls Try.prog 85 #[.int .i64 n.kind] w' fun e w'' => e = .returned (.bool false) ∧ Ext w' w'' := fun w' => lin_no w' (by omega)
  have hna : n.a = (n.a.toNat : Int) := (Int.toNat_of_nonneg ha0).symm
  have hnb : n.b = (n.b.toNat : Int) := (Int.toNat_of_nonneg hb0).symm
  by_cases hk2 : n.kind = 2
  · have hL : numsL n cnt a.xs b.xs = n.data.xs := by
      have hl := hco hk2
      unfold numsL
      apply List.ext_getElem
      · simp [hl]
      · intro i g1 g2
        rw [List.getElem_map, List.getElem_range]
        unfold numAt
        rw [if_pos hk2, List.getD_eq_getElem?_getD, List.getElem?_eq_getElem g2]; rfl
    refine calls_of tab tabOk Try.func55 rfl rfl rfl [] (fun _ => ⟨none, 0⟩) [.agg [.c (.int .i64 n.kind), .c (.int .i64 n.a), .c (.int .i64 n.b), .c n.shape.val, .c (.int .i64 n.lo), .c (.int .i64 n.hi), .c (.int .i64 n.size), .c n.data.val, .c n.bias.val], .c sv.val, .c (.slice kb kn.length kc)] [] (baseA w) 0 rfl rfl (by show 3 ≤ _; decide) (abs_base w) ?_
    (repeat' ((conv => whnf) <;> first | (show drawK _ _ _ _ _ _ _ _; refine draw_quiet tabOk mixed (by kernel_rfl) ?_) | (show Wp _ _ _ _ _ _ _; refine Wp.go tabOk rfl ?_) | (show @cmpK _ _ _; (first | refine cmpY ?_ | refine cmpN ?_ | (refine cmp_both ?_ ?_ <;> intro _))) | (show wrapK _ _ _; refine wrapA ?_) | (show leK _ _ _; refine leA ?_) | (show roomK _ _ _; refine roomA ?_) | (show ltK _ _ _; refine ltA ?_) | (show _ ∧ _; refine ⟨?_, ?_⟩) | (show keepK _ _ _ _ _; refine keepA ?_) | refine own_keep ?_ | refine ap_old ?_))
    all_goals (conv => whnf)
    all_goals exact eends_old (fun _ _ h => h) rfl hd.sane hL.symm
  · have hka := hka hk2
    have hal := hal hk2
    obtain ⟨hkl, hke⟩ := List.getElem?_eq_some_iff.1 hka
    obtain ⟨ka, hkbe⟩ : ∃ a, kb = some a := base_some (j := n.a.toNat) hkr (by rw [shRows_length]; exact hkl)
    have hrowK : (shRows kn)[n.a.toNat]? = some [a.val] := by rw [shRows_get hkl, hke]
    obtain ⟨va, hva⟩ := ha.base (by omega)
    have hvr : ∀ (R : Nat → Prop) w', (baseA w).holds R w' → RowsI w' (some va) 1 (ints a.xs) := fun R w' h => by rw [← hva]; exact rows_base h ha.rows
    refine calls_of tab tabOk Try.func55 rfl rfl rfl [] (fun _ => ⟨none, 0⟩) [.agg [.c (.int .i64 n.kind), .c (.int .i64 n.a), .c (.int .i64 n.b), .c n.shape.val, .c (.int .i64 n.lo), .c (.int .i64 n.hi), .c (.int .i64 n.size), .c n.data.val, .c n.bias.val], .c sv.val, .c (.slice kb kn.length kc)] [] (baseA w) 0 rfl rfl (by show 3 ≤ _; decide) (abs_base w) ?_
    (repeat' ((conv => whnf) <;> first | (show callK _ 85 _ _ _ _ _; refine call_pure (f := 85) Try.call85 (.bool false) (fun ρ w' hw => hlinC w') ?_) | (show idxK _ _ _ _ _; refine idx_of ka n.a.toNat hkbe hna hkl ?_) | (show roK _ _ _; (refine ro_row0 (fun R w' h => by rw [← hkbe]; exact rows_base h hkr) _ _ hrowK rfl ?_)) | (show drawK _ _ _ _ _ _ _ _; refine draw_quiet tabOk mixed (by kernel_rfl) ?_) | (show Wp _ _ _ _ _ _ _; refine Wp.go tabOk rfl ?_) | (show @cmpK _ _ _; (first | refine cmpY ?_ | refine cmpN ?_ | (refine cmp_both ?_ ?_ <;> intro _))) | (show wrapK _ _ _; refine wrapA ?_) | (show leK _ _ _; refine leA ?_) | (show roomK _ _ _; refine roomA ?_) | (show ltK _ _ _; refine ltA ?_) | (show _ ∧ _; refine ⟨?_, ?_⟩) | (show keepK _ _ _ _ _; refine keepA ?_) | refine own_keep ?_ | refine ap_old ?_))
    all_goals (conv => whnf)
    refine Wp.loop (σ := Nat) 2 (fun i => [(2, .c (.slice kb kn.length kc)), (3, .lp 0 0 0 0), (7, .c a.val), (8, .os 1 i), (75, .c a.val), (76, .c (.int .i64 cnt)), (77, .c (.int .i64 i))]) (fun i => [(1, .rows (ints ((List.range i).map (numAt n a.xs b.xs))) 1 3), (0, .box [.c (.int .i64 n.kind), .c (.int .i64 n.a), .c (.int .i64 n.b), .c n.shape.val, .c (.int .i64 n.lo), .c (.int .i64 n.hi), .c (.int .i64 n.size), .c n.data.val, .c n.bias.val] 38)]) (fun _ => baseA w)
      (fun i => i ≤ cnt) (fun i => cnt - i) 0 [(1, none)] (by decide) (fun s => ⟨rfl, rfl⟩) (Nat.zero_le _) ⟨rfl, ⟨rfl, rfl, rfl, rfl, rfl, ?_, rfl, trivial⟩, ⟨rfl, (by repeat (first | exact List.mem_cons_self | apply List.mem_cons_of_mem)), trivial⟩, fun _ _ h => h⟩ ?_
    · rw [← hal]; rfl
    rintro i hi
    have hlen : ((List.range i).map (numAt n a.xs b.xs)).length = i := by simp
    by_cases hlt : i < cnt
    · have hv : bd20 (a.xs.getD i 0) := getD_bd hab i
      have hsn : (List.range (i + 1)).map (numAt n a.xs b.xs) = (List.range i).map (numAt n a.xs b.xs) ++ [numAt n a.xs b.xs i] := by rw [List.range_succ, List.map_append]; rfl
      have hkk : n.kind = 6 ∨ n.kind = 7 ∨ n.kind = 8 ∨ n.kind = 9 := by omega
      rcases hkk with hk6 | hk7 | hk8 | hk9
      · have hN : numAt n a.xs b.xs i = a.xs.getD i 0 + b.xs.getD i 0 := by unfold numAt; rw [if_neg (by omega), if_pos hk6]
        have hkb := hkb hk6
        have hbl := hbl hk6
        obtain ⟨hkl2, hke2⟩ := List.getElem?_eq_some_iff.1 hkb
        have hrowB : (shRows kn)[n.b.toNat]? = some [b.val] := by rw [shRows_get hkl2, hke2]
        obtain ⟨vb, hvb⟩ := hb.base (by omega)
        have hbr : ∀ (R : Nat → Prop) w', (baseA w).holds R w' → RowsI w' (some vb) 1 (ints b.xs) := fun R w' h => by rw [← hvb]; exact rows_base h hb.rows
        have hv2 : bd20 (b.xs.getD i 0) := getD_bd hbb i
        unfold bd20 at hv hv2
        (repeat' ((conv => whnf) <;> first | (show idxK _ _ _ _ _; (first | refine idx_of va i hva rfl (by omega) ?_ | refine idx_of ka n.b.toNat hkbe hnb hkl2 ?_ | refine idx_of vb i hvb rfl (by omega) ?_)) | (show roK _ _ _; (first | refine ro_int hvr (j := i) (by omega) ?_ | refine ro_row0 (fun R w' h => by rw [← hkbe]; exact rows_base h hkr) _ _ hrowB rfl ?_ | refine ro_int hbr (j := i) (by omega) ?_)) | (show leK _ _ _; (refine le_of (by rw [ints_length, hlen]; exact Nat.le_refl _) ?_)) | (show roomK _ _ _; (refine room_of (by show (i + 1) * 8 ≤ 140737488355328; omega) ?_)) | (show drawK _ _ _ _ _ _ _ _; refine draw_quiet tabOk mixed (by kernel_rfl) ?_) | (show Wp _ _ _ _ _ _ _; refine Wp.go tabOk rfl ?_) | (show @cmpK _ _ _; (first | refine cmpY ?_ | refine cmpN ?_ | (refine cmp_both ?_ ?_ <;> intro _))) | (show wrapK _ _ _; refine wrapA ?_) | (show leK _ _ _; refine leA ?_) | (show roomK _ _ _; refine roomA ?_) | (show ltK _ _ _; refine ltA ?_) | (show _ ∧ _; refine ⟨?_, ?_⟩) | (show keepK _ _ _ _ _; refine keepA ?_) | refine own_keep ?_ | refine ap_old ?_))
        all_goals (conv => whnf)
        exact ⟨i + 1, [(1, some 3)], hlt, by omega, rfl, ⟨rfl, rfl, rfl, rfl, rfl, rfl, rfl, trivial⟩, ⟨by
          show (3, Ent.rows (ints ((List.range (i + 1)).map (numAt n a.xs b.xs))) 1 3) ∈ _
          rw [hsn, hN]; exact ints_snocM _ _ hlen.symm, (by repeat (first | exact List.mem_cons_self | apply List.mem_cons_of_mem)), trivial⟩, fun _ _ h => h⟩
      · have hN : numAt n a.xs b.xs i = a.xs.getD i 0 * n.data.xs.getD 0 0 := by unfold numAt; rw [if_neg (by omega), if_neg (by omega), if_pos hk7]
        have hs7 := hsc hk7
        obtain ⟨ud, hud⟩ := hd.base (by omega)
        have hdr : ∀ (R : Nat → Prop) w', (baseA w).holds R w' → RowsI w' (some ud) 1 (ints n.data.xs) := fun R w' h => by rw [← hud]; exact rows_base h hd.rows
        have q1 := mul_bd (A := 1048576) (B := 1048576) hv (getD_bd hdb 0)
        (repeat' ((conv => whnf) <;> first | (show idxK _ _ _ _ _; (first | refine idx_of va i hva rfl (by omega) ?_ | refine idx_of ud 0 hud rfl (by omega) ?_)) | (show roK _ _ _; (first | refine ro_int hvr (j := i) (by omega) ?_ | refine ro_int hdr (j := 0) (by omega) ?_)) | (show leK _ _ _; (refine le_of (by rw [ints_length, hlen]; exact Nat.le_refl _) ?_)) | (show roomK _ _ _; (refine room_of (by show (i + 1) * 8 ≤ 140737488355328; omega) ?_)) | (show drawK _ _ _ _ _ _ _ _; refine draw_quiet tabOk mixed (by kernel_rfl) ?_) | (show Wp _ _ _ _ _ _ _; refine Wp.go tabOk rfl ?_) | (show @cmpK _ _ _; (first | refine cmpY ?_ | refine cmpN ?_ | (refine cmp_both ?_ ?_ <;> intro _))) | (show wrapK _ _ _; refine wrapA ?_) | (show leK _ _ _; refine leA ?_) | (show roomK _ _ _; refine roomA ?_) | (show ltK _ _ _; refine ltA ?_) | (show _ ∧ _; refine ⟨?_, ?_⟩) | (show keepK _ _ _ _ _; refine keepA ?_) | refine own_keep ?_ | refine ap_old ?_))
        all_goals (conv => whnf)
        exact ⟨i + 1, [(1, some 3)], hlt, by omega, rfl, ⟨rfl, rfl, rfl, rfl, rfl, rfl, rfl, trivial⟩, ⟨by
          show (3, Ent.rows (ints ((List.range (i + 1)).map (numAt n a.xs b.xs))) 1 3) ∈ _
          rw [hsn, hN]; exact ints_snocM _ _ hlen.symm, (by repeat (first | exact List.mem_cons_self | apply List.mem_cons_of_mem)), trivial⟩, fun _ _ h => h⟩
      · have hN : numAt n a.xs b.xs i = powI n.data.xs (a.xs.getD i 0) := by unfold numAt; rw [if_neg (by omega), if_neg (by omega), if_neg (by omega), if_pos hk8]
        have hs8 := hpo hk8
        obtain ⟨ud, hud⟩ := hd.base (by omega)
        have hdr : ∀ (R : Nat → Prop) w', (baseA w).holds R w' → RowsI w' (some ud) 1 (ints n.data.xs) := fun R w' h => by rw [← hud]; exact rows_base h hd.rows
        have hpc : ∀ w', Calls Try.prog 86 #[.int .i64 (n.data.xs.getD 0 0), .int .i64 (n.data.xs.getD 1 0), .int .i64 (n.data.xs.getD 2 0), .int .i64 (a.xs.getD i 0)] w' fun e w'' => e = .returned (.int .i64 (powI n.data.xs (a.xs.getD i 0))) ∧ Ext w' w'' := fun w' => rpower_any w' _ _ _ _ (getD_bd hdb 0) (getD_bd hdb 1) (getD_bd hdb 2) hv
        (repeat' ((conv => whnf) <;> first | (show idxK _ _ _ _ _; (first | refine idx_of va i hva rfl (by omega) ?_ | refine idx_of ud 0 hud rfl (by omega) ?_ | refine idx_of ud 1 hud rfl (by omega) ?_ | refine idx_of ud 2 hud rfl (by omega) ?_)) | (show roK _ _ _; (first | refine ro_int hvr (j := i) (by omega) ?_ | refine ro_int hdr (j := 0) (by omega) ?_ | refine ro_int hdr (j := 1) (by omega) ?_ | refine ro_int hdr (j := 2) (by omega) ?_)) | (show callK _ 86 _ _ _ _ _; refine call_pure (f := 86) Try.call86 (.int .i64 (powI n.data.xs (a.xs.getD i 0))) (fun ρ w' hw => hpc w') ?_) | (show callQ _ 86 _ _ _ _ _; refine callQ_of (f := 86) Try.call86 (.int .i64 (powI n.data.xs (a.xs.getD i 0))) (fun ρ w' hw => hpc w') ?_) | (show leK _ _ _; (refine le_of (by rw [ints_length, hlen]; exact Nat.le_refl _) ?_)) | (show roomK _ _ _; (refine room_of (by show (i + 1) * 8 ≤ 140737488355328; omega) ?_)) | (show drawK _ _ _ _ _ _ _ _; refine draw_quiet tabOk mixed (by kernel_rfl) ?_) | (show Wp _ _ _ _ _ _ _; refine Wp.go tabOk rfl ?_) | (show @cmpK _ _ _; (first | refine cmpY ?_ | refine cmpN ?_ | (refine cmp_both ?_ ?_ <;> intro _))) | (show wrapK _ _ _; refine wrapA ?_) | (show leK _ _ _; refine leA ?_) | (show roomK _ _ _; refine roomA ?_) | (show ltK _ _ _; refine ltA ?_) | (show _ ∧ _; refine ⟨?_, ?_⟩) | (show keepK _ _ _ _ _; refine keepA ?_) | refine own_keep ?_ | refine ap_old ?_))
        all_goals (conv => whnf)
        exact ⟨i + 1, [(1, some 3)], hlt, by omega, rfl, ⟨rfl, rfl, rfl, rfl, rfl, rfl, rfl, trivial⟩, ⟨by
          show (3, Ent.rows (ints ((List.range (i + 1)).map (numAt n a.xs b.xs))) 1 3) ∈ _
          rw [hsn, hN]; exact ints_snocM _ _ hlen.symm, (by repeat (first | exact List.mem_cons_self | apply List.mem_cons_of_mem)), trivial⟩, fun _ _ h => h⟩
      · have hN : numAt n a.xs b.xs i = a.xs.getD i 0 := by unfold numAt; rw [if_neg (by omega), if_neg (by omega), if_neg (by omega), if_neg (by omega)]
        (repeat' ((conv => whnf) <;> first | (show idxK _ _ _ _ _; refine idx_of va i hva rfl (by omega) ?_) | (show roK _ _ _; refine ro_int hvr (j := i) (by omega) ?_) | (show leK _ _ _; (refine le_of (by rw [ints_length, hlen]; exact Nat.le_refl _) ?_)) | (show roomK _ _ _; (refine room_of (by show (i + 1) * 8 ≤ 140737488355328; omega) ?_)) | (show drawK _ _ _ _ _ _ _ _; refine draw_quiet tabOk mixed (by kernel_rfl) ?_) | (show Wp _ _ _ _ _ _ _; refine Wp.go tabOk rfl ?_) | (show @cmpK _ _ _; (first | refine cmpY ?_ | refine cmpN ?_ | (refine cmp_both ?_ ?_ <;> intro _))) | (show wrapK _ _ _; refine wrapA ?_) | (show leK _ _ _; refine leA ?_) | (show roomK _ _ _; refine roomA ?_) | (show ltK _ _ _; refine ltA ?_) | (show _ ∧ _; refine ⟨?_, ?_⟩) | (show keepK _ _ _ _ _; refine keepA ?_) | refine own_keep ?_ | refine ap_old ?_))
        all_goals (conv => whnf)
        exact ⟨i + 1, [(1, some 3)], hlt, by omega, rfl, ⟨rfl, rfl, rfl, rfl, rfl, rfl, rfl, trivial⟩, ⟨by
          show (3, Ent.rows (ints ((List.range (i + 1)).map (numAt n a.xs b.xs))) 1 3) ∈ _
          rw [hsn, hN]; exact ints_snocM _ _ hlen.symm, (by repeat (first | exact List.mem_cons_self | apply List.mem_cons_of_mem)), trivial⟩, fun _ _ h => h⟩
    · have hiz : i = cnt := Nat.le_antisymm hi (Nat.not_lt.1 hlt)
      subst hiz
      (repeat' ((conv => whnf) <;> first | (show drawK _ _ _ _ _ _ _ _; refine draw_quiet tabOk mixed (by kernel_rfl) ?_) | (show Wp _ _ _ _ _ _ _; refine Wp.go tabOk rfl ?_) | (show @cmpK _ _ _; (first | refine cmpY ?_ | refine cmpN ?_ | (refine cmp_both ?_ ?_ <;> intro _))) | (show wrapK _ _ _; refine wrapA ?_) | (show leK _ _ _; refine leA ?_) | (show roomK _ _ _; refine roomA ?_) | (show ltK _ _ _; refine ltA ?_) | (show _ ∧ _; refine ⟨?_, ?_⟩) | (show keepK _ _ _ _ _; refine keepA ?_) | refine own_keep ?_ | refine ap_old ?_))
      all_goals (conv => whnf)
      exact eends_new (B := ⟨w, []⟩) (fun _ _ h => h) rfl (by repeat (first | exact List.mem_cons_self | apply List.mem_cons_of_mem)) hlen.symm (fun z hz => by
        obtain ⟨q, hq, rfl⟩ := List.mem_map.1 hz
        have := hbd q
        unfold i64
        omega) (by simp only [numsL, List.length_map, List.length_range]; omega)
end Go.Proofs.Ytdmkdogakbipbaa

/- JS -/
namespace Go.Proofs.Ytdmkdogakbipbaa
open Go.SX Go.RowKit
theorem span_all (w : World) (n : NodeV) (sh : List (List Int)) (s : List Int) (sv : ShapesV) (hs : sv.ok w) (t : IntsV) (cnt : Nat) (h : PlaceIn n sh s t.xs cnt) (hno : n.ok w) (ht : sv.l[n.a.toNat]? = some t) (ha0 : 0 ≤ n.a) (hb0 : 0 ≤ n.b) (b2 : Option Addr) (c2 : Nat) (acc : List Sp) (hacc : RowsI w b2 2 (spRows acc)) (hA : n.kind ≠ 1 → n.kind ≠ 2 → n.a.toNat < acc.length) (hB : n.kind = 6 → n.b.toNat < acc.length) (hbd : ∀ s ∈ acc, bd20 s.1 ∧ bd20 s.2 ∧ s.1 ≤ s.2) : Calls Try.prog 84 #[n.valA, sv.val, .slice b2 acc.length c2] w fun e w' => e = .returned (spanV (spanE (endsA n cnt t.xs (acc.getD n.a.toNat (0, 0)) (acc.getD n.b.toNat (0, 0))))) ∧ Ext w w' := by
  obtain ⟨nd, nb, nlo, nhi, nle⟩ := near_in h.node.near
  obtain ⟨_, _, h7, h8, h2⟩ := ahead_of h.node.form
  have hfo := formed_of h.node.form
  have hkind := hfo.kind
  by_cases hl : isLin n
  · have e3 : endsA n cnt t.xs (acc.getD n.a.toNat (0, 0)) (acc.getD n.b.toNat (0, 0)) = linEnds n cnt (termsG n t.xs) (acc.getD n.a.toNat (0, 0)) := if_pos hl
    rw [e3]
    have hk : n.kind ≠ 1 ∧ n.kind ≠ 2 := by unfold isLin at hl; omega
    have hlt := hA hk.1 hk.2
    have hm := hbd _ (sp_mem hlt)
    exact span_lin w n sh s sv hs t cnt h hl hno ht ha0 b2 c2 acc hacc hlt ⟨hm.1, hm.2.1⟩
  · have e3 : endsA n cnt t.xs (acc.getD n.a.toNat (0, 0)) (acc.getD n.b.toNat (0, 0)) = endsL n (acc.getD n.a.toNat (0, 0)) (acc.getD n.b.toNat (0, 0)) := if_neg hl
    rw [e3]
    unfold isLin at hl
    by_cases hk8 : n.kind = 8
    · have hlt := hA (by omega) (by omega)
      have hm := hbd _ (sp_mem hlt)
      exact span_pow w n sv b2 c2 acc _ hk8 hno nd (h8 hk8) ha0 hacc hlt ⟨hm.1, hm.2.1⟩
    · refine span_plain w n sv b2 c2 acc (by omega) hno nd nle (fun hk => ?_) h7 ha0 hb0 hacc hA hB hbd
      have := h2 hk
      have := hfo.own (.inr (.inl hk))
      omega
theorem spRows_snoc (l : List Sp) (s : Sp) {i m : Nat} {T : TypeId} {H : Heap} (hm : m = l.length) : (i, Ent.rows (spRows (l ++ [s])) 2 T) ∈ (i, Ent.rows (List.take m (spRows l) ++ [[.int .i64 s.1, .int .i64 s.2]]) 2 T) :: H := by
  subst hm
  rw [show spRows (l ++ [s]) = List.take l.length (spRows l) ++ [[.int .i64 s.1, .int .i64 s.2]] by rw [List.take_of_length_le (by rw [spRows_length]; exact Nat.le_refl _)]; simp [spRows]]
  exact List.mem_cons_self
set_option maxRecDepth 20000 in
set_option maxHeartbeats 4000000 in
theorem refSpans_any (w : World) (g : GraphV) (hg : g.ok w) : Calls Try.prog 53 #[g.val] w (SpansPost w (spansH g)) := by
  refine calls_of tab tabOk Try.func53 rfl rfl rfl [] (fun _ => ⟨none, 0⟩) [.agg [.c (.slice g.base g.l.length g.cap), .c (.int .i64 g.out)]] [] (baseA w) 0 rfl rfl (by show 1 ≤ _; decide) (abs_base w) ?_
  (repeat' ((conv => whnf) <;> first | (show Wp _ _ _ _ _ _ _; refine Wp.go tabOk rfl ?_) | (show @cmpK _ _ _; (first | refine cmpY ?_ | refine cmpN ?_ | (refine cmp_both ?_ ?_ <;> intro _))) | (show wrapK _ _ _; refine wrapA ?_) | (show leK _ _ _; refine leA ?_) | (show roomK _ _ _; refine roomA ?_) | (show ltK _ _ _; refine ltA ?_) | (show _ ∧ _; refine ⟨?_, ?_⟩) | (show keepK _ _ _ _ _; refine keepA ?_) | refine own_keep ?_ | refine ap_old ?_))
  refine call_check (f := 38) (check g) Try.call38 (fun ρ w' hw => refCheck_any w' g (holds_of_abs hw fun R h => hg.later h)) (fun hne => ?_) (fun he sv hm hsv => ?_)
  · have hq : spansH g = ((check g).1, []) := if_pos hne
    rw [hq]
    (repeat' ((conv => whnf) <;> first | (show @cmpK _ _ _; refine cmp_yes hne ?_) | (show Wp _ _ _ _ _ _ _; refine Wp.go tabOk rfl ?_) | (show @cmpK _ _ _; (first | refine cmpY ?_ | refine cmpN ?_ | (refine cmp_both ?_ ?_ <;> intro _))) | (show wrapK _ _ _; refine wrapA ?_) | (show leK _ _ _; refine leA ?_) | (show roomK _ _ _; refine roomA ?_) | (show ltK _ _ _; refine ltA ?_) | (show _ ∧ _; refine ⟨?_, ?_⟩) | (show keepK _ _ _ _ _; refine keepA ?_) | refine own_keep ?_ | refine ap_old ?_))
    conv => whnf
    exact spans_bad (fun _ _ h => h) rfl hne (fun _ => rfl)
  have hq : spansH g = spansQ (check g).2 g.l [] := if_neg (fun h => h he)
  rw [hq]
  obtain ⟨hl1, hl24, hout, hcl, hin⟩ := check_in he
  have hsl : sv.l.length = g.l.length := by rw [← hcl, ← hm]; simp
  (repeat' ((conv => whnf) <;> first | (show Wp _ _ _ _ _ _ _; refine Wp.go tabOk rfl ?_) | (show @cmpK _ _ _; (first | refine cmpY ?_ | refine cmpN ?_ | (refine cmp_both ?_ ?_ <;> intro _))) | (show wrapK _ _ _; refine wrapA ?_) | (show leK _ _ _; refine leA ?_) | (show roomK _ _ _; refine roomA ?_) | (show ltK _ _ _; refine ltA ?_) | (show _ ∧ _; refine ⟨?_, ?_⟩) | (show keepK _ _ _ _ _; refine keepA ?_) | refine own_keep ?_ | refine ap_old ?_))
  refine Wp.loop (σ := Nat × List Sp) 2 (fun ⟨i, acc⟩ => [(4, .c sv.val), (6, .os 1 i), (19, .c (.slice g.base g.l.length g.cap)), (20, .c (.int .i64 g.l.length)), (21, .c (.int .i64 i))]) (fun ⟨i, acc⟩ => [(1, .rows (spRows acc) 2 68)]) (fun _ => (baseA w).and ((shapesD sv).past w.heap.size))
    (fun ⟨i, acc⟩ => i ≤ g.l.length ∧ acc.length = i ∧ spansQ (check g).2 (g.l.drop i) acc = spansQ (check g).2 g.l [] ∧ (∀ s ∈ acc, bd20 s.1 ∧ bd20 s.2 ∧ s.1 ≤ s.2)) (fun s => g.l.length - s.1) (0, []) [(1, none)] (by decide) (fun s => ⟨rfl, rfl⟩) ⟨Nat.zero_le _, rfl, rfl, fun s hs => by simp at hs⟩ ⟨rfl, ⟨rfl, rfl, rfl, rfl, rfl, trivial⟩, ⟨rfl, trivial⟩, fun _ _ h => h⟩ ?_
  rintro ⟨i, acc⟩ ⟨hi, hal, hsp, hab⟩
  by_cases hlt : i < g.l.length
  · obtain ⟨a, ha⟩ : ∃ a, g.base = some a := base_some (j := i) hg.rows (by rw [nodeRows_length]; omega)
    have hnm := List.getElem_mem hlt
    obtain ⟨s, hs, hni⟩ := hin i g.l[i] (List.getElem?_eq_getElem hlt)
    have hdrop : g.l.drop i = g.l[i] :: g.l.drop (i + 1) := List.drop_eq_getElem_cons hlt
    rw [hdrop] at hsp
    have hrow := nodeRows_get hlt
    have hpi := place_in he (List.getElem?_eq_getElem hlt)
    generalize g.l[i] = n at *
    have hn := hg.each n hnm
    obtain ⟨⟨ha0, hal2, hai⟩, ⟨hb0, hbl2, hbi⟩, cnt, hcnt, hpl⟩ := hpi
    have e1 : (check g).2.getD i [] = s := by rw [List.getD_eq_getElem?_getD, hs]; rfl
    rw [e1] at hcnt hpl
    obtain ⟨t, ht, hts⟩ : ∃ t, sv.l[n.a.toNat]? = some t ∧ t.xs = (check g).2.getD n.a.toNat [] := by
      have hlt2 : n.a.toNat < sv.l.length := by omega
      refine ⟨sv.l[n.a.toNat], List.getElem?_eq_getElem hlt2, ?_⟩
      rw [← hm, List.getD_eq_getElem?_getD, List.getElem?_map, List.getElem?_eq_getElem hlt2]; rfl
    rw [← hts] at hpl
    have hfo := formed_of hni.form
    have hti : ((check g).2.take i).length = i := by rw [List.length_take, hcl]; omega
    have hEq : endsAt (check g).2 n acc = endsA n cnt t.xs (acc.getD n.a.toNat (0, 0)) (acc.getD n.b.toNat (0, 0)) := by
      unfold endsAt
      rw [hal, e1, hcnt, hts]; rfl
    have hEL := endsA_len hpl (acc.getD n.a.toNat (0, 0)) (acc.getD n.b.toNat (0, 0))
    have hspan : ∀ w', sv.ok w' → n.ok w' → ∀ b2 c2, RowsI w' b2 2 (spRows acc) → Calls Try.prog 84 #[n.valA, sv.val, .slice b2 i c2] w' fun e w'' => e = .returned (spanV (spanE (endsA n cnt t.xs (acc.getD n.a.toNat (0, 0)) (acc.getD n.b.toNat (0, 0))))) ∧ Ext w' w'' := fun w' h1 h2 b2 c2 h3 => by
      rw [← hal]
      exact span_all w' n _ s sv h1 t cnt hpl h2 ht ha0 hb0 b2 c2 acc h3 (fun k1 k2 => by have := hfo.a k1 k2; omega) (fun k6 => by have := hfo.b k6; omega) hab
    generalize endsA n cnt t.xs (acc.getD n.a.toNat (0, 0)) (acc.getD n.b.toNat (0, 0)) = E at *
    have z1 : (spanE E).1 = foldI min E := rfl
    have z2 : (spanE E).2 = foldI max E := rfl
    by_cases hr : foldI min E < -1048576 ∨ 1048576 < foldI max E
    · have hq2 : spansQ (check g).2 (n :: g.l.drop (i + 1)) acc = (5, []) := by simp only [spansQ]; rw [hEq, if_pos hr]
      rw [hq2] at hsp
      rw [← hsp]
      (repeat' ((conv => whnf) <;> first | (show idxK _ _ _ _ _; refine idx_of a i ha rfl hlt ?_) | (show roAggK _ _ _ _; (refine roAgg_row (fun R w' h => by rw [← ha]; exact rows_base h.1 hg.rows) _ hrow rfl ?_)) | (show callK _ 84 _ _ _ _ _; (refine call_pure (f := 84) Try.call84 (spanV (spanE E)) (fun ρ w' hw => hspan w' (holds_of_abs hw fun R h => shapes_okI hsv (by omega) h.2) (holds_of_abs hw fun R h => hn.later h.1) (ρ 1).base (ρ 1).cap (rows_of_abs hw (by repeat (first | exact List.mem_cons_self | apply List.mem_cons_of_mem)))) ?_)) | (show Wp _ _ _ _ _ _ _; refine Wp.go tabOk rfl ?_) | (show @cmpK _ _ _; (first | refine cmpY ?_ | refine cmpN ?_ | (refine cmp_both ?_ ?_ <;> intro _))) | (show wrapK _ _ _; refine wrapA ?_) | (show leK _ _ _; refine leA ?_) | (show roomK _ _ _; refine roomA ?_) | (show ltK _ _ _; refine ltA ?_) | (show _ ∧ _; refine ⟨?_, ?_⟩) | (show keepK _ _ _ _ _; refine keepA ?_) | refine own_keep ?_ | refine ap_old ?_))
      all_goals (conv => whnf)
      all_goals first | (exfalso; omega) | exact spans_bad (fun _ _ h => h.1) rfl (by decide) (fun _ => rfl)
    · have hq2 : spansQ (check g).2 (n :: g.l.drop (i + 1)) acc = spansQ (check g).2 (g.l.drop (i + 1)) (acc ++ [(foldI min E, foldI max E)]) := by
        conv => lhs; unfold spansQ
        rw [hEq, if_neg hr]
      rw [hq2] at hsp
      have hle := foldI_le hEL
      (repeat' ((conv => whnf) <;> first | (show idxK _ _ _ _ _; refine idx_of a i ha rfl hlt ?_) | (show roAggK _ _ _ _; (refine roAgg_row (fun R w' h => by rw [← ha]; exact rows_base h.1 hg.rows) _ hrow rfl ?_)) | (show callK _ 84 _ _ _ _ _; (refine call_pure (f := 84) Try.call84 (spanV (spanE E)) (fun ρ w' hw => hspan w' (holds_of_abs hw fun R h => shapes_okI hsv (by omega) h.2) (holds_of_abs hw fun R h => hn.later h.1) (ρ 1).base (ρ 1).cap (rows_of_abs hw (by repeat (first | exact List.mem_cons_self | apply List.mem_cons_of_mem)))) ?_)) | (show leK _ _ _; (refine le_of (by rw [spRows_length, hal]; exact Nat.le_refl _) ?_)) | (show roomK _ _ _; (refine room_of (by show (i + 1) * 16 ≤ 140737488355328; omega) ?_)) | (show Wp _ _ _ _ _ _ _; refine Wp.go tabOk rfl ?_) | (show @cmpK _ _ _; (first | refine cmpY ?_ | refine cmpN ?_ | (refine cmp_both ?_ ?_ <;> intro _))) | (show wrapK _ _ _; refine wrapA ?_) | (show leK _ _ _; refine leA ?_) | (show roomK _ _ _; refine roomA ?_) | (show ltK _ _ _; refine ltA ?_) | (show _ ∧ _; refine ⟨?_, ?_⟩) | (show keepK _ _ _ _ _; refine keepA ?_) | refine own_keep ?_ | refine ap_old ?_))
      all_goals (conv => whnf)
      all_goals first | (exfalso; omega) | exact ⟨(i + 1, acc ++ [(foldI min E, foldI max E)]), [(1, some 5)], ⟨hlt, by rw [List.length_append, hal]; rfl, hsp, fun s hs => by
        rcases List.mem_append.1 hs with h | h
        · exact hab s h
        · simp at h; subst h; unfold bd20; omega⟩, by simp only; omega, rfl, ⟨rfl, rfl, rfl, rfl, rfl, trivial⟩, ⟨spRows_snoc acc (foldI min E, foldI max E) hal.symm, trivial⟩, fun _ _ h => h⟩
  · have hiz : i = g.l.length := by omega
    subst hiz
    rw [List.drop_length] at hsp
    (repeat' ((conv => whnf) <;> first | (show Wp _ _ _ _ _ _ _; refine Wp.go tabOk rfl ?_) | (show @cmpK _ _ _; (first | refine cmpY ?_ | refine cmpN ?_ | (refine cmp_both ?_ ?_ <;> intro _))) | (show wrapK _ _ _; refine wrapA ?_) | (show leK _ _ _; refine leA ?_) | (show roomK _ _ _; refine roomA ?_) | (show ltK _ _ _; refine ltA ?_) | (show _ ∧ _; refine ⟨?_, ?_⟩) | (show keepK _ _ _ _ _; refine keepA ?_) | refine own_keep ?_ | refine ap_old ?_))
    conv => whnf
    exact spans_good (l := acc) (fun _ _ h => h.1) rfl (by repeat (first | exact List.mem_cons_self | apply List.mem_cons_of_mem)) hal.symm (by rw [← hsp]; rfl)
end Go.Proofs.Ytdmkdogakbipbaa

/- JX -/
namespace Go.Proofs.Ytdmkdogakbipbaa
open Go.SX Go.RowKit
theorem values_all (w : World) (n : NodeV) (sh : List (List Int)) (s : List Int) (sv : ShapesV) (hs : sv.ok w) (t : IntsV) (cnt : Nat) (h : PlaceIn n sh s t.xs cnt) (hk1 : n.kind ≠ 1) (hno : n.ok w) (ht : sv.l[n.a.toNat]? = some t) (ha0 : 0 ≤ n.a) (hb0 : 0 ≤ n.b) (kb : Option Addr) (kc : Nat) (kn : List IntsV) (hkr : RowsI w kb 1 (shRows kn)) (a b : IntsV) (hka : n.kind ≠ 2 → kn[n.a.toNat]? = some a) (hkb : n.kind = 6 → kn[n.b.toNat]? = some b) (hao : a.ok w) (hbo : b.ok w) (hab : ∀ x ∈ a.xs, bd20 x) (hbb : ∀ x ∈ b.xs, bd20 x) (hn : NumIn n sh a.xs b.xs) : Calls Try.prog 55 #[n.valA, sv.val, .slice kb kn.length kc] w (EndsPost w n (numsA n cnt t.xs a.xs b.xs)) := by
  by_cases hl : isLin n
  · have e3 : numsA n cnt t.xs a.xs b.xs = numsLin n cnt cnt (termsG n t.xs) a.xs := if_pos hl
    rw [e3]
    have hk2 : n.kind ≠ 2 := by unfold isLin at hl; omega
    have hal := hn.aLen hk1 hk2
    rw [(h.first hl).1] at hal
    exact values_lin w n sh s sv hs t cnt h hl hno ht ha0 kb kc kn hkr a (hka hk2) hao hab hal
  · have e3 : numsA n cnt t.xs a.xs b.xs = numsL n cnt a.xs b.xs := if_neg hl
    rw [e3]
    obtain ⟨_, _, h7, h8, h2⟩ := ahead_of h.node.form
    obtain ⟨nd, nb, nlo, nhi, nle⟩ := near_in h.node.near
    obtain ⟨q1, q2, q3, q4⟩ := plain_lens h hl hk1 hn
    exact values_plain w n sv kb kc kn hkr a b cnt ⟨q1, h.few.2, hno.data, nd, q2, h7, h8, hao, hbo, q3, q4, hab, hbb⟩ hno ha0 hb0 h.few.1 hka hkb
abbrev Mix := IntsV × Bool
def mixA (N : Nat) (l : List Mix) : Asn where
  holds R w := ∀ p ∈ l, p.2 = false → (newA N p.1).holds R w
  stable := fun hR hw h p hp e => (newA N p.1).stable hR hw (h p hp e)
theorem mix_nil (N : Nat) (R : Nat → Prop) (w : World) : (mixA N []).holds R w := fun p hp => by simp at hp
theorem mix_snoc {N : Nat} {l : List Mix} {p : Mix} {R : Nat → Prop} {w : World} (h : (mixA N l).holds R w) (hp : p.2 = false → (newA N p.1).holds R w) : (mixA N (l ++ [p])).holds R w := fun q hq => by
  rcases List.mem_append.1 hq with hq | hq
  · exact h q hq
  · rw [List.mem_singleton.1 hq]; exact hp
structure MixIn (src : List IntsV) (l : List Mix) : Prop where
  sane : ∀ p ∈ l, p.1.sane
  old : ∀ p ∈ l, p.2 = true → p.1 ∈ src
theorem MixIn.ok {src : List IntsV} {w w' : World} {R : Nat → Prop} {N : Nat} {l : List Mix} (h : MixIn src l) (hs : ∀ u ∈ src, u.ok w) (hb : (baseA w).holds R w') (hm : (mixA N l).holds R w') : ∀ u ∈ l.map Prod.fst, u.ok w' := fun u hu => by
  obtain ⟨p, hp, rfl⟩ := List.mem_map.1 hu
  cases e : p.2 with
  | true => exact (hs _ (h.old p hp e)).later hb
  | false => exact intsA_ok (h.sane p hp) ((intsA p.1).mono (hm p hp e) (fun b hb => hb.1))
theorem MixIn.snoc {src : List IntsV} {l : List Mix} {p : Mix} (h : MixIn src l) (hs : p.1.sane) (ho : p.2 = true → p.1 ∈ src) : MixIn src (l ++ [p]) := by
  refine ⟨fun q hq => ?_, fun q hq => ?_⟩
  · rcases List.mem_append.1 hq with hq | hq
    · exact h.sane q hq
    · rw [List.mem_singleton.1 hq]; exact hs
  · rcases List.mem_append.1 hq with hq | hq
    · exact h.old q hq
    · rw [List.mem_singleton.1 hq]; exact ho
def srcOf (g : GraphV) (iv : ShapesV) : List IntsV := g.l.map NodeV.data ++ iv.l
theorem srcOk {w : World} {g : GraphV} {iv : ShapesV} (hg : g.ok w) (hi : InV.ok w iv) : ∀ u ∈ srcOf g iv, u.ok w := fun u hu => by
  rcases List.mem_append.1 hu with hu | hu
  · obtain ⟨n, hn, rfl⟩ := List.mem_map.1 hu
    exact (hg.each n hn).data
  · exact hi.each u hu
def AllPost (src : List IntsV) (w : World) (r : Int × List (List Int)) (e : Ending) (w' : World) : Prop :=
  (r.1 ≠ 0 ∧ e = .returned (.tuple #[.slice none 0 0, .int .i64 r.1]) ∧ Ext w w') ∨ (r.1 = 0 ∧ ∃ (base : Option Addr) (cap : Nat) (l : List Mix), (l.map fun p => p.1.xs) = r.2 ∧ MixIn src l ∧ e = .returned (.tuple #[.slice base l.length cap, .int .i64 0]) ∧ Ext w w' ∧ (rowsA base 1 (shRows (l.map Prod.fst))).holds (fun b => w.heap.size ≤ b ∧ b < w'.heap.size) w' ∧ ∀ p ∈ l, p.2 = false → (intsA p.1).holds (fun b => w.heap.size ≤ b ∧ b < w'.heap.size) w')
theorem all_bad {src : List IntsV} {B : Base} {v : SV} {H : Heap} {S : Asn} {nx : Nat} {w : World} {r : Int × List (List Int)} (hb : ∀ R w', S.holds R w' → (baseA B.w0).holds R w') (hw0 : B.w0 = w) (hn : r.1 ≠ 0) (hv : ∀ ρ, v.rf ρ = .tuple #[.slice none 0 0, .int .i64 r.1]) : finK B v H S nx (AllPost src w r) := by
  subst hw0
  exact fin_of fun ρ w' hw => .inl ⟨hn, by rw [hv], ext_of_abs hw hb⟩
theorem all_good {src : List IntsV} {B : Base} {H : Heap} {S : Asn} {nx i m : Nat} {w : World} {r : Int × List (List Int)} {l : List Mix} (hb : ∀ R w', S.holds R w' → (baseA B.w0).holds R w') (hE : ∀ R w', S.holds R w' → (mixA B.w0.heap.size l).holds R w') (hw0 : B.w0 = w) (he : (i, Ent.rows (shRows (l.map Prod.fst)) 1 33) ∈ H) (hm : m = l.length) (hl : MixIn src l) (hr : r = (0, l.map fun p => p.1.xs)) : finK B (.tup [.os i m, .c (.int .i64 0)]) H S nx (AllPost src w r) := by
  subst hw0 hm hr
  refine fin_of fun ρ w' hw => .inr ⟨rfl, ?_⟩
  have hn := new_of_abs hw hb he
  rw [shRows_length] at hn
  obtain ⟨base, cap, e, hc, hD⟩ := newSlicesM hn
  rw [List.length_map] at e
  refine ⟨base, cap, l, rfl, hl, ?_, ext_of_abs hw hb, hD, fun p hp h0 => past_new hw (D := intsA p.1) fun R w' h => hE R w' h p hp h0⟩
  show Ending.returned (.tuple #[(SV.os i l.length).rf ρ, .int .i64 0]) = _
  rw [e]
def allH (g : GraphV) (inp : List (List Int)) : Int × List (List Int) := if (spansH g).1 ≠ 0 then ((spansH g).1, []) else valsH g inp
end Go.Proofs.Ytdmkdogakbipbaa

/- JY -/
namespace Go.Proofs.Ytdmkdogakbipbaa
open Go.SX Go.RowKit
theorem getD_fst (kn : List Mix) (k : Nat) : ((kn.map fun p => p.1.xs).getD k []) = ((kn.map Prod.fst).getD k nilI).xs := by
  rw [List.getD_eq_getElem?_getD, List.getD_eq_getElem?_getD, List.getElem?_map, List.getElem?_map]
  cases kn[k]? <;> rfl
theorem mix_rows (kn : List Mix) (x : Mix) {i m : Nat} {T : TypeId} {H : Heap} (hm : m = kn.length) : (i, Ent.rows (shRows ((kn ++ [x]).map Prod.fst)) 1 T) ∈ (i, Ent.rows (List.take m (shRows (kn.map Prod.fst)) ++ [[x.1.val]]) 1 T) :: H := by
  subst hm
  rw [List.map_append]
  have := rows_snoc (kn.map Prod.fst) x.1 (i := i) (T := T) (H := H)
  rw [List.length_map] at this
  exact this
theorem foldI_bounds {l : List Int} {lo hi : Int} (h1 : 1 ≤ l.length) (h : ∀ q, q < l.length → lo ≤ l.getD q 0 ∧ l.getD q 0 ≤ hi) : lo ≤ foldI min l ∧ foldI max l ≤ hi := by
  have key : ∀ x ∈ l, lo ≤ x ∧ x ≤ hi := fun x hx => by
    obtain ⟨q, hq, rfl⟩ := List.mem_iff_getElem.1 hx
    have := h q hq
    rw [List.getD_eq_getElem?_getD, List.getElem?_eq_getElem hq] at this
    exact this
  exact ⟨(key _ (foldI_min_mem h1)).1, (key _ (foldI_max_mem h1)).2⟩
set_option maxRecDepth 20000 in
set_option maxHeartbeats 8000000 in
theorem refAll_any (w : World) (g : GraphV) (hg : g.ok w) (iv : ShapesV) (hiv : InV.ok w iv) : Calls Try.prog 37 #[g.val, iv.val] w (AllPost (srcOf g iv) w (allH g (iv.l.map IntsV.xs))) := by
  have hivf := hiv.few
  have hsrc := srcOk hg hiv
  refine calls_of tab tabOk Try.func37 rfl rfl rfl [] (fun _ => ⟨none, 0⟩) [.agg [.c (.slice g.base g.l.length g.cap), .c (.int .i64 g.out)], .c iv.val] [] (baseA w) 0 rfl rfl (by show 2 ≤ _; decide) (abs_base w) ?_
  (repeat' ((conv => whnf) <;> first | (show drawK _ _ _ _ _ _ _ _; refine draw_quiet tabOk mixed (by kernel_rfl) ?_) | (show Wp _ _ _ _ _ _ _; refine Wp.go tabOk rfl ?_) | (show @cmpK _ _ _; (first | refine cmpY ?_ | refine cmpN ?_ | (refine cmp_both ?_ ?_ <;> intro _))) | (show wrapK _ _ _; refine wrapA ?_) | (show leK _ _ _; refine leA ?_) | (show roomK _ _ _; refine roomA ?_) | (show ltK _ _ _; refine ltA ?_) | (show _ ∧ _; refine ⟨?_, ?_⟩) | (show keepK _ _ _ _ _; refine keepA ?_) | refine own_keep ?_ | refine ap_old ?_))
  refine call_spans (f := 53) (spansH g) Try.call53 (fun ρ w' hw => refSpans_any w' g (holds_of_abs hw fun R h => hg.later h)) (fun hne => ?_) (fun hsp base cap => ?_)
  · have hq : allH g (iv.l.map IntsV.xs) = ((spansH g).1, []) := if_pos hne
    rw [hq]
    (repeat' ((conv => whnf) <;> first | (show @cmpK _ _ _; refine cmp_yes hne ?_) | (show drawK _ _ _ _ _ _ _ _; refine draw_quiet tabOk mixed (by kernel_rfl) ?_) | (show Wp _ _ _ _ _ _ _; refine Wp.go tabOk rfl ?_) | (show @cmpK _ _ _; (first | refine cmpY ?_ | refine cmpN ?_ | (refine cmp_both ?_ ?_ <;> intro _))) | (show wrapK _ _ _; refine wrapA ?_) | (show leK _ _ _; refine leA ?_) | (show roomK _ _ _; refine roomA ?_) | (show ltK _ _ _; refine ltA ?_) | (show _ ∧ _; refine ⟨?_, ?_⟩) | (show keepK _ _ _ _ _; refine keepA ?_) | refine own_keep ?_ | refine ap_old ?_))
    conv => whnf
    exact all_bad (fun _ _ h => h) rfl hne (fun _ => rfl)
  have hq : allH g (iv.l.map IntsV.xs) = valsH g (iv.l.map IntsV.xs) := if_neg (fun h => h hsp)
  rw [hq]
  obtain ⟨hck, hsl, hsi⟩ := spansH_in hsp
  obtain ⟨hl1, hl24, hout, hcl, hin⟩ := check_in hck
  (repeat' ((conv => whnf) <;> first | (show drawK _ _ _ _ _ _ _ _; refine draw_quiet tabOk mixed (by kernel_rfl) ?_) | (show Wp _ _ _ _ _ _ _; refine Wp.go tabOk rfl ?_) | (show @cmpK _ _ _; (first | refine cmpY ?_ | refine cmpN ?_ | (refine cmp_both ?_ ?_ <;> intro _))) | (show wrapK _ _ _; refine wrapA ?_) | (show leK _ _ _; refine leA ?_) | (show roomK _ _ _; refine roomA ?_) | (show ltK _ _ _; refine ltA ?_) | (show _ ∧ _; refine ⟨?_, ?_⟩) | (show keepK _ _ _ _ _; refine keepA ?_) | refine own_keep ?_ | refine ap_old ?_))
  refine call_check (f := 38) (check g) Try.call38 (fun ρ w' hw => refCheck_any w' g (holds_of_abs hw fun R h => hg.later h.1)) (fun hne => absurd hck hne) (fun _ sv hm hsv => ?_)
  have hsvl : sv.l.length = g.l.length := by rw [← hcl, ← hm]; simp
  (repeat' ((conv => whnf) <;> first | (show drawK _ _ _ _ _ _ _ _; refine draw_quiet tabOk mixed (by kernel_rfl) ?_) | (show Wp _ _ _ _ _ _ _; refine Wp.go tabOk rfl ?_) | (show @cmpK _ _ _; (first | refine cmpY ?_ | refine cmpN ?_ | (refine cmp_both ?_ ?_ <;> intro _))) | (show wrapK _ _ _; refine wrapA ?_) | (show leK _ _ _; refine leA ?_) | (show roomK _ _ _; refine roomA ?_) | (show ltK _ _ _; refine ltA ?_) | (show _ ∧ _; refine ⟨?_, ?_⟩) | (show keepK _ _ _ _ _; refine keepA ?_) | refine own_keep ?_ | refine ap_old ?_))
  refine Wp.know (p := ∃ a, sv.base = some a) (fun ρ w' hw => holds_of_abs hw fun R h => base_some (j := 0) (rowsA_in h.2.1) (by rw [shRows_length]; omega)) ?_
  rintro ⟨sa, hsa⟩
  refine Wp.loop (σ := Nat × List Mix × Nat) 2 (fun ⟨i, kn, k⟩ => [(1, .c iv.val), (8, .c sv.val), (10, .os 1 i), (11, .c (.int .i64 k)), (30, .c (.slice g.base g.l.length g.cap)), (31, .c (.int .i64 g.l.length)), (32, .c (.int .i64 i))]) (fun ⟨_, kn, _⟩ => [(1, .rows (shRows (kn.map Prod.fst)) 1 33)]) (fun ⟨_, kn, _⟩ => ((baseA w).and ((shapesD sv).past w.heap.size)).and (mixA w.heap.size kn))
    (fun ⟨i, kn, k⟩ => i ≤ g.l.length ∧ KnownH g (kn.map Prod.fst) i ∧ MixIn (srcOf g iv) kn ∧ k ≤ iv.l.length ∧ valsQ (check g).2 (g.l.drop i) (kn.map fun p => p.1.xs) ((iv.l.drop k).map IntsV.xs) = valsH g (iv.l.map IntsV.xs)) (fun s => g.l.length - s.1) (0, [], 0) [(1, none)] (by decide) (fun s => ⟨rfl, rfl⟩) ⟨Nat.zero_le _, ⟨rfl, fun u hu => by simp at hu, fun j u s q hu => by simp at hu⟩, ⟨fun p hp => by simp at hp, fun p hp => by simp at hp⟩, Nat.zero_le _, rfl⟩ ⟨rfl, ⟨rfl, rfl, rfl, rfl, rfl, rfl, rfl, trivial⟩, ⟨rfl, trivial⟩, fun R w h => ⟨⟨h.1.1, h.2⟩, mix_nil _ R w⟩⟩ ?_
  rintro ⟨i, kn, k⟩ ⟨hi, hkn, hmx, hk, hv⟩
  have hkl : kn.length = i := by have := hkn.len; rwa [List.length_map] at this
  by_cases hlt : i < g.l.length
  · obtain ⟨a, ha⟩ : ∃ a, g.base = some a := base_some (j := i) hg.rows (by rw [nodeRows_length]; omega)
    have hnm := List.getElem_mem hlt
    obtain ⟨s, hs, hni⟩ := hin i g.l[i] (List.getElem?_eq_getElem hlt)
    obtain ⟨p, hp, hpe, hp1, hp2⟩ := hsi i g.l[i] (List.getElem?_eq_getElem hlt)
    have hdrop : g.l.drop i = g.l[i] :: g.l.drop (i + 1) := List.drop_eq_getElem_cons hlt
    rw [hdrop] at hv
    have hrow := nodeRows_get hlt
    have hpi := place_in hck (List.getElem?_eq_getElem hlt)
    generalize g.l[i] = n at *
    have hn := hg.each n hnm
    obtain ⟨⟨ha0, hal2, hai⟩, ⟨hb0, hbl2, hbi⟩, cnt, hcnt0, hpl⟩ := hpi
    have e1 : (check g).2.getD i [] = s := by rw [List.getD_eq_getElem?_getD, hs]; rfl
    rw [e1] at hcnt0 hpl
    have hti : ((check g).2.take i).length = i := by rw [List.length_take, hcl]; omega
    have hform := hni.form
    rw [hti] at hform
    have hkml : (kn.map fun p => p.1.xs).length = i := by rw [List.length_map, hkl]
    obtain ⟨t, ht, hts⟩ : ∃ t, sv.l[n.a.toNat]? = some t ∧ t.xs = (check g).2.getD n.a.toNat [] := by
      have hlt2 : n.a.toNat < sv.l.length := by omega
      refine ⟨sv.l[n.a.toNat], List.getElem?_eq_getElem hlt2, ?_⟩
      rw [← hm, List.getD_eq_getElem?_getD, List.getElem?_map, List.getElem?_eq_getElem hlt2]; rfl
    rw [← hts] at hpl
    obtain ⟨u, hu, hus⟩ : ∃ u, sv.l[i]? = some u ∧ u.xs = s := by
      have hs' := hs
      rw [← hm, List.getElem?_map] at hs'
      cases hu : sv.l[i]? with
      | none => rw [hu] at hs'; simp at hs'
      | some u => rw [hu] at hs'; exact ⟨u, rfl, by simpa using hs'⟩
    have hcb := (entries_bd u.xs).2
    by_cases hk1 : n.kind = 1
    · have hpos : 1 ≤ cnt := hpl.few.1
      have hcs : entries u.xs = cnt := by rw [hus]; exact hcnt0
      obtain ⟨hul, hue⟩ := List.getElem?_eq_some_iff.1 hu
      have hrowU : (shRows sv.l)[i]? = some [u.val] := by rw [shRows_get hul, hue]
      have hum : u ∈ sv.l := hue ▸ List.getElem_mem hul
      by_cases hkl2 : k < iv.l.length
      · obtain ⟨ia, hia⟩ : ∃ a, iv.base = some a := base_some (j := k) hiv.rows (by rw [shRows_length]; exact hkl2)
        have hdk : iv.l.drop k = iv.l[k] :: iv.l.drop (k + 1) := List.drop_eq_getElem_cons hkl2
        have hxm := List.getElem_mem hkl2
        have hrowX := shRows_get hkl2
        rw [hdk, List.map_cons] at hv
        generalize iv.l[k] = x at *
        have hxok : x.ok w := hiv.each x hxm
        have hxf := hxok.few
        by_cases hbad : (x.xs.length : Int) ≠ cnt
        · have hv2 : valsH g (iv.l.map IntsV.xs) = (12, []) := by
            rw [← hv]
            conv => lhs; unfold valsQ
            rw [if_neg (fun h => h hk1)]
            simp only
            rw [hkml, e1, ← hus, hcs, if_pos (.inl hbad)]
          (repeat' ((conv => whnf) <;> first | (show idxK _ _ _ _ _; (first | refine idx_of a i ha rfl hlt ?_ | refine idx_of ia k hia rfl hkl2 ?_ | refine idx_of sa i hsa rfl hul ?_)) | (show roAggK _ _ _ _; (refine roAgg_row (fun R w' h => by rw [← ha]; exact rows_base h.1.1 hg.rows) _ hrow rfl ?_)) | (show roK _ _ _; (first | refine ro_row0 (fun R w' h => by rw [← hia]; exact rows_base h.1.1 hiv.rows) _ _ hrowX rfl ?_ | refine ro_row0 (fun R w' h => by rw [← hsa]; exact rowsA_in h.1.2.1) _ _ hrowU rfl ?_)) | (show callQ _ 34 _ _ _ _ _; refine callQ_of (f := 34) Try.call34 (.int .i64 (entries u.xs)) (fun ρ w' hw => refEntries_any w' u.base u.cap u.xs (holds_of_abs hw fun R h => ((shapes_okI hsv (by omega) h.1.2).each u hum).rows)) ?_) | (show callK _ 34 _ _ _ _ _; refine call_pure (f := 34) Try.call34 (.int .i64 (entries u.xs)) (fun ρ w' hw => refEntries_any w' u.base u.cap u.xs (holds_of_abs hw fun R h => ((shapes_okI hsv (by omega) h.1.2).each u hum).rows)) ?_) | (show drawK _ _ _ _ _ _ _ _; refine draw_quiet tabOk mixed (by kernel_rfl) ?_) | (show Wp _ _ _ _ _ _ _; refine Wp.go tabOk rfl ?_) | (show @cmpK _ _ _; (first | refine cmpY ?_ | refine cmpN ?_ | (refine cmp_both ?_ ?_ <;> intro _))) | (show wrapK _ _ _; refine wrapA ?_) | (show leK _ _ _; refine leA ?_) | (show roomK _ _ _; refine roomA ?_) | (show ltK _ _ _; refine ltA ?_) | (show _ ∧ _; refine ⟨?_, ?_⟩) | (show keepK _ _ _ _ _; refine keepA ?_) | refine own_keep ?_ | refine ap_old ?_))
          all_goals (conv => whnf)
          all_goals first | (exfalso; omega) | exact all_bad (fun _ _ h => h.1.1) rfl (by rw [hv2]; decide) (fun _ => by rw [hv2]; rfl)
        · have hlen : x.xs.length = cnt := by omega
          obtain ⟨xa, hxa⟩ := hxok.base (by omega)
          have hxr : ∀ (R : Nat → Prop) w', (baseA w).holds R w' → RowsI w' (some xa) 1 (ints x.xs) := fun R w' h => by rw [← hxa]; exact rows_base h hxok.rows
          (repeat' ((conv => whnf) <;> first | (show idxK _ _ _ _ _; (first | refine idx_of a i ha rfl hlt ?_ | refine idx_of ia k hia rfl hkl2 ?_ | refine idx_of sa i hsa rfl hul ?_)) | (show roAggK _ _ _ _; (refine roAgg_row (fun R w' h => by rw [← ha]; exact rows_base h.1.1 hg.rows) _ hrow rfl ?_)) | (show roK _ _ _; (first | refine ro_row0 (fun R w' h => by rw [← hia]; exact rows_base h.1.1 hiv.rows) _ _ hrowX rfl ?_ | refine ro_row0 (fun R w' h => by rw [← hsa]; exact rowsA_in h.1.2.1) _ _ hrowU rfl ?_)) | (show callQ _ 34 _ _ _ _ _; refine callQ_of (f := 34) Try.call34 (.int .i64 (entries u.xs)) (fun ρ w' hw => refEntries_any w' u.base u.cap u.xs (holds_of_abs hw fun R h => ((shapes_okI hsv (by omega) h.1.2).each u hum).rows)) ?_) | (show callK _ 34 _ _ _ _ _; refine call_pure (f := 34) Try.call34 (.int .i64 (entries u.xs)) (fun ρ w' hw => refEntries_any w' u.base u.cap u.xs (holds_of_abs hw fun R h => ((shapes_okI hsv (by omega) h.1.2).each u hum).rows)) ?_) | (show drawK _ _ _ _ _ _ _ _; refine draw_quiet tabOk mixed (by kernel_rfl) ?_) | (show Wp _ _ _ _ _ _ _; refine Wp.go tabOk rfl ?_) | (show @cmpK _ _ _; (first | refine cmpY ?_ | refine cmpN ?_ | (refine cmp_both ?_ ?_ <;> intro _))) | (show wrapK _ _ _; refine wrapA ?_) | (show leK _ _ _; refine leA ?_) | (show roomK _ _ _; refine roomA ?_) | (show ltK _ _ _; refine ltA ?_) | (show _ ∧ _; refine ⟨?_, ?_⟩) | (show keepK _ _ _ _ _; refine keepA ?_) | refine own_keep ?_ | refine ap_old ?_))
          all_goals (conv => whnf)
          all_goals try (exfalso; omega)
          refine Wp.loop (σ := Nat) 3 (fun j => [(1, .c iv.val), (8, .c sv.val), (10, .os 1 i), (11, .c (.int .i64 k)), (30, .c (.slice g.base g.l.length g.cap)), (31, .c (.int .i64 g.l.length)), (32, .c (.int .i64 i)), (12, .c (.int .i64 i)), (13, .lp 2 0 0 0), (67, .c x.val), (68, .c (.int .i64 cnt)), (69, .c (.int .i64 j))]) (fun _ => [(2, .box [.c (.int .i64 n.kind), .c (.int .i64 n.a), .c (.int .i64 n.b), .c n.shape.val, .c (.int .i64 n.lo), .c (.int .i64 n.hi), .c (.int .i64 n.size), .c n.data.val, .c n.bias.val] 38), (1, .rows (shRows (kn.map Prod.fst)) 1 33)]) (fun _ => ((baseA w).and ((shapesD sv).past w.heap.size)).and (mixA w.heap.size kn))
            (fun j => j ≤ cnt ∧ ∀ q, q < j → n.lo ≤ x.xs.getD q 0 ∧ x.xs.getD q 0 ≤ n.hi) (fun j => cnt - j) 0 [] (by decide) (fun s => ⟨rfl, rfl⟩) ⟨Nat.zero_le _, fun q hq => absurd hq (Nat.not_lt_zero q)⟩ ⟨rfl, ⟨rfl, rfl, rfl, rfl, rfl, rfl, rfl, rfl, rfl, rfl, ?_, rfl, trivial⟩, ⟨(by repeat (first | exact List.mem_cons_self | apply List.mem_cons_of_mem)), (by repeat (first | exact List.mem_cons_self | apply List.mem_cons_of_mem)), trivial⟩, fun _ _ h => h⟩ ?_
          · rw [← hlen]; rfl
          rintro j ⟨hj, hjb⟩
          by_cases hjl : j < cnt
          · by_cases hbj : x.xs.getD j 0 < n.lo ∨ n.hi < x.xs.getD j 0
            · have hv2 : valsH g (iv.l.map IntsV.xs) = (12, []) := by
                rw [← hv]
                conv => lhs; unfold valsQ
                rw [if_neg (fun h => h hk1)]
                simp only
                have hmem : x.xs.getD j 0 ∈ x.xs := by rw [List.getD_eq_getElem?_getD, List.getElem?_eq_getElem (by omega)]; exact List.getElem_mem _
                have m1 := foldI_min_le hmem
                have m2 := foldI_max_ge hmem
                rw [hkml, e1, ← hus, hcs, if_pos (by omega)]
              (repeat' ((conv => whnf) <;> first | (show idxK _ _ _ _ _; refine idx_of xa j hxa rfl (by omega) ?_) | (show roK _ _ _; refine ro_int (fun R w' h => hxr R w' h.1.1) (j := j) (by omega) ?_) | (show drawK _ _ _ _ _ _ _ _; refine draw_quiet tabOk mixed (by kernel_rfl) ?_) | (show Wp _ _ _ _ _ _ _; refine Wp.go tabOk rfl ?_) | (show @cmpK _ _ _; (first | refine cmpY ?_ | refine cmpN ?_ | (refine cmp_both ?_ ?_ <;> intro _))) | (show wrapK _ _ _; refine wrapA ?_) | (show leK _ _ _; refine leA ?_) | (show roomK _ _ _; refine roomA ?_) | (show ltK _ _ _; refine ltA ?_) | (show _ ∧ _; refine ⟨?_, ?_⟩) | (show keepK _ _ _ _ _; refine keepA ?_) | refine own_keep ?_ | refine ap_old ?_))
              all_goals (conv => whnf)
              all_goals first | (exfalso; omega) | exact all_bad (fun _ _ h => h.1.1) rfl (by rw [hv2]; decide) (fun _ => by rw [hv2]; rfl)
            · (repeat' ((conv => whnf) <;> first | (show idxK _ _ _ _ _; refine idx_of xa j hxa rfl (by omega) ?_) | (show roK _ _ _; refine ro_int (fun R w' h => hxr R w' h.1.1) (j := j) (by omega) ?_) | (show drawK _ _ _ _ _ _ _ _; refine draw_quiet tabOk mixed (by kernel_rfl) ?_) | (show Wp _ _ _ _ _ _ _; refine Wp.go tabOk rfl ?_) | (show @cmpK _ _ _; (first | refine cmpY ?_ | refine cmpN ?_ | (refine cmp_both ?_ ?_ <;> intro _))) | (show wrapK _ _ _; refine wrapA ?_) | (show leK _ _ _; refine leA ?_) | (show roomK _ _ _; refine roomA ?_) | (show ltK _ _ _; refine ltA ?_) | (show _ ∧ _; refine ⟨?_, ?_⟩) | (show keepK _ _ _ _ _; refine keepA ?_) | refine own_keep ?_ | refine ap_old ?_))
              all_goals (conv => whnf)
              all_goals first | (exfalso; omega) | exact ⟨j + 1, [], ⟨hjl, fun q hq => by
                rcases Nat.lt_or_ge q j with h | h
                · exact hjb q h
                · have hqj : q = j := by omega
                  subst hqj; omega⟩, by omega, rfl, ⟨rfl, rfl, rfl, rfl, rfl, rfl, rfl, rfl, rfl, rfl, rfl, rfl, trivial⟩, ⟨(by repeat (first | exact List.mem_cons_self | apply List.mem_cons_of_mem)), (by repeat (first | exact List.mem_cons_self | apply List.mem_cons_of_mem)), trivial⟩, fun _ _ h => h⟩
          · have hjz : j = cnt := Nat.le_antisymm hj (Nat.not_lt.1 hjl)
            rw [hjz, ← hlen] at hjb
            have hmm := foldI_bounds (l := x.xs) (by omega) hjb
            have hv1 : valsQ (check g).2 (n :: g.l.drop (i + 1)) (kn.map fun p => p.1.xs) (x.xs :: (iv.l.drop (k + 1)).map IntsV.xs) = valsQ (check g).2 (g.l.drop (i + 1)) ((kn.map fun p => p.1.xs) ++ [x.xs]) ((iv.l.drop (k + 1)).map IntsV.xs) := by
              conv => lhs; unfold valsQ
              rw [if_neg (fun h => h hk1)]
              simp only
              rw [hkml, e1, ← hus, hcs, if_neg (by omega)]
            rw [hv1] at hv
            have hwi : within p x.xs := by
              rw [hpe]
              have hL : endsAt (check g).2 n ((spansH g).2.take i) = [n.lo, n.hi] := by
                unfold endsAt endsA
                rw [if_neg (by unfold isLin; omega)]
                exact if_pos hk1
              unfold spanAt spanE
              rw [hL]
              intro z hz
              have m1 : foldI min [n.lo, n.hi] = min n.lo n.hi := rfl
              have m2 : foldI max [n.lo, n.hi] = max n.lo n.hi := rfl
              have := foldI_min_le hz
              have := foldI_max_ge hz
              simp only [m1, m2]
              omega
            have hxl : (x.xs.length : Int) = entries s := by rw [hcnt0, hlen]
            (repeat' ((conv => whnf) <;> first | (show idxK _ _ _ _ _; refine idx_of ia k hia rfl hkl2 ?_) | (show roK _ _ _; (refine ro_row0 (fun R w' h => by rw [← hia]; exact rows_base h.1.1 hiv.rows) _ _ hrowX rfl ?_)) | (show leK _ _ _; (refine le_of (by rw [shRows_length, List.length_map, hkl]; exact Nat.le_refl _) ?_)) | (show roomK _ _ _; (refine room_of (by show (i + 1) * 24 ≤ 140737488355328; omega) ?_)) | (show drawK _ _ _ _ _ _ _ _; refine draw_quiet tabOk mixed (by kernel_rfl) ?_) | (show Wp _ _ _ _ _ _ _; refine Wp.go tabOk rfl ?_) | (show @cmpK _ _ _; (first | refine cmpY ?_ | refine cmpN ?_ | (refine cmp_both ?_ ?_ <;> intro _))) | (show wrapK _ _ _; refine wrapA ?_) | (show leK _ _ _; refine leA ?_) | (show roomK _ _ _; refine roomA ?_) | (show ltK _ _ _; refine ltA ?_) | (show _ ∧ _; refine ⟨?_, ?_⟩) | (show keepK _ _ _ _ _; refine keepA ?_) | refine own_keep ?_ | refine ap_old ?_))
            all_goals (conv => whnf)
            exact ⟨(i + 1, kn ++ [(x, true)], k + 1), [(1, some 4)], ⟨hlt, by rw [List.map_append]; exact known_snocH hkn hxok.sane hp hs hwi hxl, hmx.snoc hxok.sane (fun _ => List.mem_append_right _ hxm), hkl2, by rw [List.map_append]; exact hv⟩, by simp only; omega, rfl, ⟨rfl, rfl, rfl, rfl, rfl, rfl, rfl, trivial⟩, ⟨mix_rows kn (x, true) hkl.symm, trivial⟩, fun R w' h => ⟨h.1, mix_snoc h.2 (fun e => by cases e)⟩⟩
      · have hv2 : valsH g (iv.l.map IntsV.xs) = (12, []) := by
          have hdk0 : iv.l.drop k = [] := List.drop_of_length_le (by omega)
          rw [hdk0] at hv
          rw [← hv]
          conv => lhs; unfold valsQ
          rw [if_neg (fun h => h hk1)]
          rfl
        (repeat' ((conv => whnf) <;> first | (show idxK _ _ _ _ _; refine idx_of a i ha rfl hlt ?_) | (show roAggK _ _ _ _; (refine roAgg_row (fun R w' h => by rw [← ha]; exact rows_base h.1.1 hg.rows) _ hrow rfl ?_)) | (show drawK _ _ _ _ _ _ _ _; refine draw_quiet tabOk mixed (by kernel_rfl) ?_) | (show Wp _ _ _ _ _ _ _; refine Wp.go tabOk rfl ?_) | (show @cmpK _ _ _; (first | refine cmpY ?_ | refine cmpN ?_ | (refine cmp_both ?_ ?_ <;> intro _))) | (show wrapK _ _ _; refine wrapA ?_) | (show leK _ _ _; refine leA ?_) | (show roomK _ _ _; refine roomA ?_) | (show ltK _ _ _; refine ltA ?_) | (show _ ∧ _; refine ⟨?_, ?_⟩) | (show keepK _ _ _ _ _; refine keepA ?_) | refine own_keep ?_ | refine ap_old ?_))
        all_goals (conv => whnf)
        all_goals first | (exfalso; omega) | exact all_bad (fun _ _ h => h.1.1) rfl (by rw [hv2]; decide) (fun _ => by rw [hv2]; rfl)
    · have kA := known_argH hsp hkn (by omega) n.a.toNat
      have kB := known_argH hsp hkn (by omega) n.b.toNat
      have hfo := formed_of hform
      have hnum := num_inH hsp hkn (by omega) hfo
      have hwn := nums_in hpl hk1 hnum kA.1 kB.1
      have hv1 : valsQ (check g).2 (n :: g.l.drop (i + 1)) (kn.map fun p => p.1.xs) ((iv.l.drop k).map IntsV.xs) = valsQ (check g).2 (g.l.drop (i + 1)) ((kn.map fun p => p.1.xs) ++ [numsA n cnt t.xs ((kn.map Prod.fst).getD n.a.toNat nilI).xs ((kn.map Prod.fst).getD n.b.toNat nilI).xs]) ((iv.l.drop k).map IntsV.xs) := by
        conv => lhs; unfold valsQ
        unfold numsAt
        rw [if_pos hk1, getD_fst, getD_fst, hkml, e1, hcnt0, hts]; rfl
      rw [hv1] at hv
      have hcs : entries s = cnt := hcnt0
      have hEq : endsAt (check g).2 n ((spansH g).2.take i) = endsA n cnt t.xs (((spansH g).2.take i).getD n.a.toNat (0, 0)) (((spansH g).2.take i).getD n.b.toNat (0, 0)) := by
        unfold endsAt
        rw [show ((spansH g).2.take i).length = i by rw [List.length_take, hsl]; omega, e1, hcnt0, hts]; rfl
      have hgA : n.kind ≠ 2 → (kn.map Prod.fst)[n.a.toNat]? = some ((kn.map Prod.fst).getD n.a.toNat nilI) := fun k2 => by
        have := hfo.a hk1 k2
        rw [List.getD_eq_getElem?_getD, List.getElem?_eq_getElem (by rw [List.length_map]; omega)]; rfl
      have hgB : n.kind = 6 → (kn.map Prod.fst)[n.b.toNat]? = some ((kn.map Prod.fst).getD n.b.toNat nilI) := fun k6 => by
        have := hfo.b k6
        rw [List.getD_eq_getElem?_getD, List.getElem?_eq_getElem (by rw [List.length_map]; omega)]; rfl
      have hgo : ∀ w', (∀ z ∈ kn.map Prod.fst, IntsV.ok w' z) → ∀ j, IntsV.ok w' ((kn.map Prod.fst).getD j nilI) := fun w' hz j => by
        rw [List.getD_eq_getElem?_getD]
        rcases Nat.lt_or_ge j (kn.map Prod.fst).length with hj | hj
        · rw [List.getElem?_eq_getElem hj]; exact hz _ (List.getElem_mem hj)
        · rw [List.getElem?_eq_none hj]; exact ⟨.inl rfl, fun x hx => by simp [nilI] at hx, Nat.le_refl _, Nat.zero_le _⟩
      have hval : ∀ w', sv.ok w' → n.ok w' → (∀ z ∈ kn.map Prod.fst, IntsV.ok w' z) → ∀ kb kc, RowsI w' kb 1 (shRows (kn.map Prod.fst)) → Calls Try.prog 55 #[n.valA, sv.val, .slice kb i kc] w' (EndsPost w' n (numsA n cnt t.xs ((kn.map Prod.fst).getD n.a.toNat nilI).xs ((kn.map Prod.fst).getD n.b.toNat nilI).xs)) := fun w' h1 h2 h3 kb kc h4 => by
        have hle : i = (kn.map Prod.fst).length := by rw [List.length_map, hkl]
        have := values_all w' n _ s sv h1 t cnt hpl hk1 h2 ht ha0 hb0 kb kc (kn.map Prod.fst) h4 _ _ hgA hgB (hgo w' h3 _) (hgo w' h3 _) kA.2.1 kB.2.1 hnum
        rw [← hle] at this
        exact this
      generalize numsA n cnt t.xs ((kn.map Prod.fst).getD n.a.toNat nilI).xs ((kn.map Prod.fst).getD n.b.toNat nilI).xs = V at *
      (repeat' ((conv => whnf) <;> first | (show idxK _ _ _ _ _; refine idx_of a i ha rfl hlt ?_) | (show roAggK _ _ _ _; (refine roAgg_row (fun R w' h => by rw [← ha]; exact rows_base h.1.1 hg.rows) _ hrow rfl ?_)) | (show callK _ 55 _ _ _ _ _; (refine call_past Try.call55 (fun x : IntsV × Bool => x.1.val) oldA (fun x => x.1.xs = V ∧ x.1.sane ∧ (x.2 = true → x.1 = n.data)) (fun ρ w' hw => hval w' (holds_of_abs hw fun R h => shapes_okI hsv (by omega) h.1.2) (holds_of_abs hw fun R h => hn.later h.1.1) (holds_of_abs hw fun R h => hmx.ok hsrc h.1.1 h.2) (ρ 1).base (ρ 1).cap (rows_of_abs hw (by repeat (first | exact List.mem_cons_self | apply List.mem_cons_of_mem)))) (fun x hx => ?_))) | (show leK _ _ _; (refine le_of (by rw [shRows_length, List.length_map, hkl]; exact Nat.le_refl _) ?_)) | (show roomK _ _ _; (refine room_of (by show (i + 1) * 24 ≤ 140737488355328; omega) ?_)) | (show drawK _ _ _ _ _ _ _ _; refine draw_quiet tabOk mixed (by kernel_rfl) ?_) | (show Wp _ _ _ _ _ _ _; refine Wp.go tabOk rfl ?_) | (show @cmpK _ _ _; (first | refine cmpY ?_ | refine cmpN ?_ | (refine cmp_both ?_ ?_ <;> intro _))) | (show wrapK _ _ _; refine wrapA ?_) | (show leK _ _ _; refine leA ?_) | (show roomK _ _ _; refine roomA ?_) | (show ltK _ _ _; refine ltA ?_) | (show _ ∧ _; refine ⟨?_, ?_⟩) | (show keepK _ _ _ _ _; refine keepA ?_) | refine own_keep ?_ | refine ap_old ?_))
      all_goals (conv => whnf)
      all_goals exact ⟨(i + 1, kn ++ [x], k), [(1, some 4)], ⟨hlt, by rw [List.map_append]; exact known_snocH hkn hx.2.1 hp hs (by rw [hx.1, hpe]; unfold spanAt; rw [hEq]; exact hwn.1) (by rw [hx.1, hcs, hwn.2]), hmx.snoc hx.2.1 (fun e => by rw [hx.2.2 e]; exact List.mem_append_left _ (List.mem_map.2 ⟨n, hnm, rfl⟩)), hk, by rw [List.map_append, List.map_cons, List.map_nil, hx.1]; exact hv⟩, by simp only; omega, rfl, ⟨rfl, rfl, rfl, rfl, rfl, rfl, rfl, trivial⟩, ⟨mix_rows kn x hkl.symm, trivial⟩, fun R w' h => ⟨h.1.1, mix_snoc h.1.2 (fun e => h.2 e)⟩⟩
  · have hiz : i = g.l.length := by omega
    subst hiz
    rw [List.drop_length] at hv
    by_cases hrest : k < iv.l.length
    · have hv2 : valsH g (iv.l.map IntsV.xs) = (12, []) := by
        rw [← hv]
        conv => lhs; unfold valsQ
        rw [if_pos (by rw [List.length_map, List.length_drop]; omega)]
      (repeat' ((conv => whnf) <;> first | (show drawK _ _ _ _ _ _ _ _; refine draw_quiet tabOk mixed (by kernel_rfl) ?_) | (show Wp _ _ _ _ _ _ _; refine Wp.go tabOk rfl ?_) | (show @cmpK _ _ _; (first | refine cmpY ?_ | refine cmpN ?_ | (refine cmp_both ?_ ?_ <;> intro _))) | (show wrapK _ _ _; refine wrapA ?_) | (show leK _ _ _; refine leA ?_) | (show roomK _ _ _; refine roomA ?_) | (show ltK _ _ _; refine ltA ?_) | (show _ ∧ _; refine ⟨?_, ?_⟩) | (show keepK _ _ _ _ _; refine keepA ?_) | refine own_keep ?_ | refine ap_old ?_))
      all_goals (conv => whnf)
      all_goals first | (exfalso; omega) | exact all_bad (fun _ _ h => h.1.1) rfl (by rw [hv2]; decide) (fun _ => by rw [hv2]; rfl)
    · have hv2 : valsH g (iv.l.map IntsV.xs) = (0, kn.map fun p => p.1.xs) := by
        rw [← hv]
        conv => lhs; unfold valsQ
        rw [if_neg (by rw [List.length_map, List.length_drop]; omega)]
      (repeat' ((conv => whnf) <;> first | (show drawK _ _ _ _ _ _ _ _; refine draw_quiet tabOk mixed (by kernel_rfl) ?_) | (show Wp _ _ _ _ _ _ _; refine Wp.go tabOk rfl ?_) | (show @cmpK _ _ _; (first | refine cmpY ?_ | refine cmpN ?_ | (refine cmp_both ?_ ?_ <;> intro _))) | (show wrapK _ _ _; refine wrapA ?_) | (show leK _ _ _; refine leA ?_) | (show roomK _ _ _; refine roomA ?_) | (show ltK _ _ _; refine ltA ?_) | (show _ ∧ _; refine ⟨?_, ?_⟩) | (show keepK _ _ _ _ _; refine keepA ?_) | refine own_keep ?_ | refine ap_old ?_))
      all_goals (conv => whnf)
      all_goals exact all_good (B := ⟨w, []⟩) (fun _ _ h => h.1.1) (fun _ _ h => h.2) rfl (by repeat (first | exact List.mem_cons_self | apply List.mem_cons_of_mem)) hkl.symm hmx hv2
end Go.Proofs.Ytdmkdogakbipbaa

/- MX -/
namespace Go.Proofs.Ytdmkdogakbipbaa
open Go.SX Go.RowKit
def allD (base : Option Addr) (l : List Mix) : Asn where
  holds R w := (rowsA base 1 (shRows (l.map Prod.fst))).holds R w ∧ ∀ p ∈ l, p.2 = false → (intsA p.1).holds R w
  stable := fun hR hw h => ⟨(rowsA _ _ _).stable hR hw h.1, fun p hp e => (intsA p.1).stable hR hw (h.2 p hp e)⟩
theorem call_all {cx : Cx} {f : FuncId} {args : List SV} {H : Heap} {S : Asn} {nx : Nat} {K : SV → Heap → Asn → Nat → Prop} (src : List IntsV) (r : Int × List (List Int)) (hf : ∀ ar w, (callFunc f ar).run cx.P w = .ok (.enter f ar) w)
    (hc : ∀ ρ w', Abs cx.B ρ nx H S w' → Calls cx.P f (SV.rfs ρ args).toArray w' (AllPost src w' r))
    (h0 : r.1 ≠ 0 → K (.c (.tuple #[.slice none 0 0, .int .i64 r.1])) H S nx)
    (h1 : r.1 = 0 → ∀ base cap (l : List Mix), (l.map fun p => p.1.xs) = r.2 → MixIn src l → K (.c (.tuple #[.slice base l.length cap, .int .i64 0])) H (S.and ((allD base l).past cx.B.w0.heap.size)) nx) : callK cx f args H S nx K := by
  rw [callK_def]
  refine ⟨hf, fun ρ w hw => (hc ρ w hw).mono ?_⟩
  rintro e w' (⟨hr, rfl, he⟩ | ⟨hr, base, cap, l, hl, hm, rfl, he, hD1, hD2⟩)
  · exact ⟨.c (.tuple #[.slice none 0 0, .int .i64 r.1]), ρ, H, S, nx, rfl, fun _ _ => rfl, Nat.le_refl _, SV.lt_c _, hw.ext he, h0 hr⟩
  · exact ⟨.c (.tuple #[.slice base l.length cap, .int .i64 0]), ρ, H, _, nx, rfl, fun _ _ => rfl, Nat.le_refl _, SV.lt_c _, hw.grow (D := allD base l) he ⟨hD1, hD2⟩, h1 hr base cap l hl hm⟩
end Go.Proofs.Ytdmkdogakbipbaa

/- MW -/
namespace Go.Proofs.Ytdmkdogakbipbaa
abbrev dtMW0 : Go.SX.DT := (.take 0 (.take 1 (.take 2 (.take 3 (.one 4 (.one 5 (.one 6 (.take 7 (.take 8 (.take 9 (.take 10 (.take 11 (.done)))))))))))))
abbrev dtMW1 : Go.SX.DT := (.take 0 (.take 1 (.take 2 (.take 3 (.take 4 (.one 5 (.take 6 (.take 7 (.take 8 (.take 9 (.take 10 (.take 11 (.take 12 (.done))))))))))))))
open Go.SX Go.RowKit
theorem wrap_Wm {z : Int} {K : Int → Prop} (h : K (W64 z)) : wrapK .i64 z K := wrap_any h
theorem W64_self {z : Int} (h : i64 z) : W64 z = z := by
  obtain ⟨h1, h2⟩ := h
  rw [W64_eq]; split <;> omega
theorem ro_ivN {a : Addr} {j : Nat} {S : Asn} {xs : List Int} {v : Int} {K : SV → Prop} (hx : ∀ R w, S.holds R w → RowsI w (some a) 1 (ints xs)) (hj : j < xs.length) (e : xs.getD j 0 = v) (h : K (.c (.int .i64 v))) : roK (a.add (j * 1)) S K := by
  subst e; exact ro_int hx hj h
set_option maxRecDepth 20000 in
set_option maxHeartbeats 4000000 in
theorem lawLinMade_any (w : World) (t d : BytesV) (ht : t.raw w) (hd : d.raw w) : Calls Try.prog 14 #[t.val, d.val] w fun e w' => e = .returned (.bool true) ∧ Ext w w' := by
  by_cases h300 : t.bs.length ≤ 300 ∧ d.bs.length ≤ 300
  · obtain ⟨ht3, hd3⟩ := h300
    refine calls_of tab tabOk Try.func14 rfl rfl rfl [] (fun _ => ⟨none, 0⟩) [.c t.val, .c d.val] [] (baseA w) 0 rfl rfl (by show 2 ≤ _; decide) (abs_base w) ?_
    (repeat' ((conv => whnf) <;> first | (show callK _ 27 _ _ _ _ _; refine call_pure (f := 27) Try.call27 (.bool true) (fun ρ w' hw => fixed19_any w') ?_) | (show drawK _ 6 _ _ _ _ _ _; refine draw_tree tabOk mixed [] _ dtMW0 (by kernel_rfl) (by kernel_rfl) (by kernel_rfl) (List.Sublist.refl _) ?_) | (show drawK _ _ _ _ _ _ _ _; refine draw_quiet tabOk mixed (by kernel_rfl) ?_) | (show Wp _ _ _ _ _ _ _; refine Wp.go tabOk rfl ?_) | (show @cmpK _ _ _; (first | refine cmpY ?_ | refine cmpN ?_ | (refine cmp_both ?_ ?_ <;> intro _))) | (show wrapK _ _ _; refine wrapA ?_) | (show leK _ _ _; refine leA ?_) | (show roomK _ _ _; refine roomA ?_) | (show ltK _ _ _; refine ltA ?_) | (show _ ∧ _; refine ⟨?_, ?_⟩) | (show keepK _ _ _ _ _; refine keepA ?_) | refine own_keep ?_ | refine ap_old ?_))
    refine call_graph (f := 16) t 0 (by repeat (first | exact List.mem_cons_self | apply List.mem_cons_of_mem)) Try.call16 (by omega) ht.fits (Nat.zero_le _) (fun R w' h => base_bytes ht h) (fun w' b htk => make_any w' b t 0 htk) (fun l out k' hml h8 ho0 ho1 => ?_)
    obtain ⟨sh, hms⟩ := hml.s
    obtain ⟨on, rfl⟩ : ∃ k : Nat, out = k := ⟨out.toNat, by omega⟩
    have hl1 := hml.one
    have hck := hms.check (by omega) none 0 ho0 ho1
    (repeat' ((conv => whnf) <;> first | (show drawK _ 6 _ _ _ _ _ _; refine draw_tree tabOk mixed [] _ dtMW0 (by kernel_rfl) (by kernel_rfl) (by kernel_rfl) (List.Sublist.refl _) ?_) | (show drawK _ _ _ _ _ _ _ _; refine draw_quiet tabOk mixed (by kernel_rfl) ?_) | (show @cmpK _ _ _; (first | refine cmpY ?_ | refine cmpN ?_ | (refine cmp_both ?_ ?_ <;> intro _))) | (show wrapK _ _ _; refine wrapA ?_) | (show leK _ _ _; refine leA ?_) | (show roomK _ _ _; refine roomA ?_) | (show ltK _ _ _; refine ltA ?_) | (show _ ∧ _; refine ⟨?_, ?_⟩) | (show keepK _ _ _ _ _; refine keepA ?_) | refine own_keep ?_ | refine ap_old ?_))
    all_goals (conv => whnf)
    refine Wp.freezeN 1 w.heap.size (k := 9) (xs := nodeRows l) (T := 38) (by repeat (first | exact List.mem_cons_self | apply List.mem_cons_of_mem)) (fun R w' h b hb => (h.1 b hb).1) (fun l1 hl1 => ?_)
    refine Wp.know (p := ∃ a, l1.base = some a) (fun ρ w' hw => holds_of_abs hw fun R h => base_some (j := 0) (rowsA_in h.2) (by rw [nodeRows_length]; omega)) ?_
    rintro ⟨la, hla⟩
    obtain ⟨lb, lc⟩ := l1
    simp only at hla
    subst hla
    have hckl : check ⟨some la, lc, l, on⟩ = (0, sh) := hms.check (by omega) (some la) lc ho0 ho1
    have hgok : ∀ {R : Nat → Prop} {w' : World}, (((baseA w).and ((nodesD l).past w.heap.size)).and ((rowsA (some la) 9 (nodeRows l)).past w.heap.size)).holds R w' → (⟨(some la), lc, l, on⟩ : GraphV).ok w' := fun h => graph_ok hml.each (by omega) (rowsA_in h.2) ((nodesD l).mono h.1.2 (fun b hb => hb.1)) ⟨by omega, by omega⟩
    (repeat' ((conv => whnf) <;> first | (show drawK _ 6 _ _ _ _ _ _; refine draw_tree tabOk mixed [] _ dtMW0 (by kernel_rfl) (by kernel_rfl) (by kernel_rfl) (List.Sublist.refl _) ?_) | (show drawK _ _ _ _ _ _ _ _; refine draw_quiet tabOk mixed (by kernel_rfl) ?_) | (show Wp _ _ _ _ _ _ _; refine Wp.go tabOk rfl ?_) | (show @cmpK _ _ _; (first | refine cmpY ?_ | refine cmpN ?_ | (refine cmp_both ?_ ?_ <;> intro _))) | (show wrapK _ _ _; refine wrapA ?_) | (show leK _ _ _; refine leA ?_) | (show roomK _ _ _; refine roomA ?_) | (show ltK _ _ _; refine ltA ?_) | (show _ ∧ _; refine ⟨?_, ?_⟩) | (show keepK _ _ _ _ _; refine keepA ?_) | refine own_keep ?_ | refine ap_old ?_))
    refine call_inputs (f := 17) d 0 (some la) lc l on (by repeat (first | exact List.mem_cons_self | apply List.mem_cons_of_mem)) Try.call17 (by omega) hd.fits (Nat.zero_le _) (fun R w' h => base_bytes hd h.1.1) (by omega) (fun R w' h => (rowsA _ _ _).mono h.2 (fun b hb => hb.1)) (fun R w' h => (nodesD l).mono h.1.2 (fun b hb => hb.1)) (made_read hml (by omega)) (fun w' b htk hr hnd => inputs_any w' b d 0 htk (some la) lc l on (by omega) hr hnd (made_read hml (by omega))) (fun x k2 hx => ?_)
    have hinv : ∀ {R : Nat → Prop} {w' : World}, ((shapesD x).past w.heap.size).holds R w' → InV.ok w' x := fun h => ⟨rowsA_in h.1, fun z hz => intsA_ok (hx.sane z hz) (h.2 z hz), hx.room, by have := hx.few; omega⟩
    (repeat' ((conv => whnf) <;> first | (show drawK _ 6 _ _ _ _ _ _; refine draw_tree tabOk mixed [] _ dtMW0 (by kernel_rfl) (by kernel_rfl) (by kernel_rfl) (List.Sublist.refl _) ?_) | (show drawK _ _ _ _ _ _ _ _; refine draw_quiet tabOk mixed (by kernel_rfl) ?_) | (show Wp _ _ _ _ _ _ _; refine Wp.go tabOk rfl ?_) | (show @cmpK _ _ _; (first | refine cmpY ?_ | refine cmpN ?_ | (refine cmp_both ?_ ?_ <;> intro _))) | (show wrapK _ _ _; refine wrapA ?_) | (show leK _ _ _; refine leA ?_) | (show roomK _ _ _; refine roomA ?_) | (show ltK _ _ _; refine ltA ?_) | (show _ ∧ _; refine ⟨?_, ?_⟩) | (show keepK _ _ _ _ _; refine keepA ?_) | refine own_keep ?_ | refine ap_old ?_))
    refine call_all (f := 37) (srcOf ⟨some la, lc, l, on⟩ x) (allH ⟨some la, lc, l, on⟩ (x.l.map IntsV.xs)) Try.call37 (fun ρ w' hw => refAll_any w' ⟨some la, lc, l, on⟩ (holds_of_abs hw fun R h => hgok h.1) x (holds_of_abs hw fun R h => hinv h.2)) (fun hne => ?_) (fun hall base cap L hL hM => ?_)
    · (repeat' ((conv => whnf) <;> first | (show @cmpK _ _ _; refine cmp_yes hne ?_) | (show drawK _ 6 _ _ _ _ _ _; refine draw_tree tabOk mixed [] _ dtMW0 (by kernel_rfl) (by kernel_rfl) (by kernel_rfl) (List.Sublist.refl _) ?_) | (show drawK _ _ _ _ _ _ _ _; refine draw_quiet tabOk mixed (by kernel_rfl) ?_) | (show Wp _ _ _ _ _ _ _; refine Wp.go tabOk rfl ?_) | (show @cmpK _ _ _; (first | refine cmpY ?_ | refine cmpN ?_ | (refine cmp_both ?_ ?_ <;> intro _))) | (show wrapK _ _ _; refine wrapA ?_) | (show leK _ _ _; refine leA ?_) | (show roomK _ _ _; refine roomA ?_) | (show ltK _ _ _; refine ltA ?_) | (show _ ∧ _; refine ⟨?_, ?_⟩) | (show keepK _ _ _ _ _; refine keepA ?_) | refine own_keep ?_ | refine ap_old ?_))
      all_goals (conv => whnf)
      all_goals exact ends_bool (B := ⟨w, []⟩) (fun R w' h => h.1.1.1) rfl rfl
    · have hsp : (spansH ⟨some la, lc, l, on⟩).1 = 0 := by
        unfold allH at hall
        split at hall
        · rename_i h; exact absurd hall h
        · rename_i h; omega
      obtain ⟨hS1, hS2⟩ := made_spans (fun b c o h0 h1 => hms.check (by omega) b c h0 h1) (some la) lc on ho0 ho1
      have hal : allH ⟨some la, lc, l, on⟩ (x.l.map IntsV.xs) = valsQ sh l [] (x.l.map IntsV.xs) := by unfold allH; rw [if_neg (fun h => h hsp), hS2]
      obtain ⟨vals, hv, hvl, hvi, _⟩ := hms.run (by omega) hx.good (by rw [← hS1]; exact hsp)
      rw [hal, hv] at hL
      have hL : (L.map fun p => p.1.xs) = vals := hL
      clear hal hall hS1 hS2 hsp
      have hLl : L.length = l.length := by rw [← hvl, ← hL, List.length_map]
      (repeat' ((conv => whnf) <;> first | (show @cmpK _ _ _; refine cmp_no (by decide) ?_) | (show drawK _ 6 _ _ _ _ _ _; refine draw_tree tabOk mixed [] _ dtMW0 (by kernel_rfl) (by kernel_rfl) (by kernel_rfl) (List.Sublist.refl _) ?_) | (show drawK _ _ _ _ _ _ _ _; refine draw_quiet tabOk mixed (by kernel_rfl) ?_) | (show Wp _ _ _ _ _ _ _; refine Wp.go tabOk rfl ?_) | (show @cmpK _ _ _; (first | refine cmpY ?_ | refine cmpN ?_ | (refine cmp_both ?_ ?_ <;> intro _))) | (show wrapK _ _ _; refine wrapA ?_) | (show leK _ _ _; refine leA ?_) | (show roomK _ _ _; refine roomA ?_) | (show ltK _ _ _; refine ltA ?_) | (show _ ∧ _; refine ⟨?_, ?_⟩) | (show keepK _ _ _ _ _; refine keepA ?_) | refine own_keep ?_ | refine ap_old ?_))
      refine call_check (f := 38) (0, sh) Try.call38 (fun ρ w' hw => by have := refCheck_any w' ⟨some la, lc, l, on⟩ (holds_of_abs hw fun R h => hgok h.1.1); rw [hckl] at this; exact this) (fun hne => absurd rfl hne) (fun _ sv hsv hss => ?_)
      have hsv : sv.l.map IntsV.xs = sh := hsv
      have hsvl : sv.l.length = l.length := by rw [← hms.len, ← hsv, List.length_map]
      (repeat' ((conv => whnf) <;> first | (show drawK _ 6 _ _ _ _ _ _; refine draw_tree tabOk mixed [] _ dtMW0 (by kernel_rfl) (by kernel_rfl) (by kernel_rfl) (List.Sublist.refl _) ?_) | (show drawK _ _ _ _ _ _ _ _; refine draw_quiet tabOk mixed (by kernel_rfl) ?_) | (show Wp _ _ _ _ _ _ _; refine Wp.go tabOk rfl ?_) | (show @cmpK _ _ _; (first | refine cmpY ?_ | refine cmpN ?_ | (refine cmp_both ?_ ?_ <;> intro _))) | (show wrapK _ _ _; refine wrapA ?_) | (show leK _ _ _; refine leA ?_) | (show roomK _ _ _; refine roomA ?_) | (show ltK _ _ _; refine ltA ?_) | (show _ ∧ _; refine ⟨?_, ?_⟩) | (show keepK _ _ _ _ _; refine keepA ?_) | refine own_keep ?_ | refine ap_old ?_))
      all_goals (conv => whnf)
      refine Wp.know (p := ∃ a, base = some a) (fun ρ w' hw => holds_of_abs hw fun R h => base_some (j := 0) (rowsA_in h.1.2.1) (by rw [shRows_length, List.length_map]; omega)) ?_
      rintro ⟨ba, rfl⟩
      refine Wp.know (p := ∃ a, sv.base = some a) (fun ρ w' hw => holds_of_abs hw fun R h => base_some (j := 0) (rowsA_in h.2.1) (by rw [shRows_length]; omega)) ?_
      rintro ⟨sa, hsa⟩
      have hsrc : ∀ {R : Nat → Prop} {w' : World}, (((((((baseA w).and ((nodesD l).past w.heap.size)).and ((rowsA (some la) 9 (nodeRows l)).past w.heap.size)).and ((shapesD x).past w.heap.size)).and ((allD (some ba) L).past w.heap.size)).and ((shapesD sv).past w.heap.size))).holds R w' → ∀ p ∈ L, p.1.ok w' := fun {R w'} h p hp => by
        have hg := hgok h.1.1.1
        have hi := hinv h.1.1.2
        rcases Bool.eq_false_or_eq_true p.2 with e | e
        · exact srcOk hg hi _ (hM.old p hp e)
        · exact intsA_ok (hM.sane p hp) (h.1.2.2 p hp e)
      have hso : ∀ {R : Nat → Prop} {w' : World}, (((((((baseA w).and ((nodesD l).past w.heap.size)).and ((rowsA (some la) 9 (nodeRows l)).past w.heap.size)).and ((shapesD x).past w.heap.size)).and ((allD (some ba) L).past w.heap.size)).and ((shapesD sv).past w.heap.size))).holds R w' → ∀ u ∈ sv.l, u.ok w' := fun h u hu => intsA_ok (hss u hu) (h.2.2 u hu)
      refine Wp.loop (σ := Nat) 4 (fun i => [(6, .c (.slice (some ba) L.length cap)), (8, .c sv.val), (53, .c (.slice (some la) l.length lc)), (54, .c (.int .i64 l.length)), (55, .c (.int .i64 i))]) (fun _ => []) (fun _ => (((((((baseA w).and ((nodesD l).past w.heap.size)).and ((rowsA (some la) 9 (nodeRows l)).past w.heap.size)).and ((shapesD x).past w.heap.size)).and ((allD (some ba) L).past w.heap.size)).and ((shapesD sv).past w.heap.size))))
        (fun i => i ≤ l.length) (fun i => l.length - i) 0 [] (by decide) (fun s => ⟨rfl, rfl⟩) (Nat.zero_le _) ⟨rfl, ⟨rfl, rfl, rfl, rfl, rfl, trivial⟩, trivial, fun _ _ h => h⟩ ?_
      rintro i hi
      by_cases hlt : i < l.length
      · have hni := List.getElem?_eq_getElem hlt
        have hnm := List.getElem_mem hlt
        have hrow := nodeRows_get hlt
        generalize l[i] = n at *
        have hmn := hml.each n hnm
        have hnok : ∀ {R : Nat → Prop} {w' : World}, (((((((baseA w).and ((nodesD l).past w.heap.size)).and ((rowsA (some la) 9 (nodeRows l)).past w.heap.size)).and ((shapesD x).past w.heap.size)).and ((allD (some ba) L).past w.heap.size)).and ((shapesD sv).past w.heap.size))).holds R w' → n.ok w' := fun h => (hgok h.1.1.1).each n hnm
        have hkf := hmn.kindFits
        by_cases hk : isLin n ∨ n.kind = 9
        · obtain ⟨tv, htv, htx⟩ : ∃ u, sv.l[n.a.toNat]? = some u ∧ u.xs = sh.getD n.a.toNat [] := by
            have hal : n.a.toNat < sv.l.length := by have := hms.a (by omega) n hnm; rw [hms.len] at this; omega
            refine ⟨sv.l[n.a.toNat], List.getElem?_eq_getElem hal, ?_⟩
            rw [← hsv, List.getD_eq_getElem?_getD, List.getElem?_map, List.getElem?_eq_getElem hal]; rfl
          obtain ⟨⟨ha0, hai⟩, hdo⟩ := rows_do hms (by omega) hv hvl (fun j hj => (hvi j hj).2) hni hk htx
          obtain ⟨an, han⟩ : ∃ k : Nat, n.a = k := ⟨n.a.toNat, by omega⟩
          have han2 : n.a.toNat = an := by omega
          rw [han2] at htv htx hai hdo
          have htm := List.mem_of_getElem? htv
          obtain ⟨hatl, hate⟩ := List.getElem?_eq_some_iff.1 htv
          have hrowT : (shRows sv.l)[an]? = some [tv.val] := by rw [shRows_get hatl, hate]
          have hiL : i < L.length := by omega
          have haL : an < L.length := by omega
          have hrowI : (shRows (L.map Prod.fst))[i]? = some [L[i].1.val] := by rw [shRows_get (by rw [List.length_map]; exact hiL)]; simp
          have hrowA : (shRows (L.map Prod.fst))[an]? = some [L[an].1.val] := by rw [shRows_get (by rw [List.length_map]; exact haL)]; simp
          have hvI : vals.getD i [] = L[i].1.xs := by rw [← hL, List.getD_eq_getElem?_getD, List.getElem?_map, List.getElem?_eq_getElem hiL]; rfl
          have hvA : vals.getD an [] = L[an].1.xs := by rw [← hL, List.getD_eq_getElem?_getD, List.getElem?_map, List.getElem?_eq_getElem haL]; rfl
          have hmI := List.getElem_mem hiL
          have hmA := List.getElem_mem haL
          rw [hvI, hvA] at hdo
          generalize L[i] = zi at *
          generalize L[an] = za at *
          have hzis := hM.sane zi hmI
          have hzas := hM.sane za hmA
          have hzif := hzis.few
          have hzaf := hzas.few
          have hro : rowsR (at0 n) tv = ((rowsW n tv.xs zi.1.xs.length, (List.range zi.1.xs.length).map (biasI n zi.1.xs.length)), 0) := Prod.ext (Prod.ext hdo.rows hdo.bias) hdo.ok
          have hargl := hdo.arg
          have hdoo := hdo.do_
          clear hdo
          have h0ok : ∀ {R : Nat → Prop} {w' : World}, (((((((baseA w).and ((nodesD l).past w.heap.size)).and ((rowsA (some la) 9 (nodeRows l)).past w.heap.size)).and ((shapesD x).past w.heap.size)).and ((allD (some ba) L).past w.heap.size)).and ((shapesD sv).past w.heap.size))).holds R w' → (at0 n).ok w' := fun h => by
            have := hnok h
            exact ⟨this.shape, this.data, this.bias, this.kindFits, (show i64 0 from ⟨by decide, by decide⟩), this.bFits, this.loFits, this.hiFits, this.sizeFits⟩
          have hsm : (at0 n).small := ⟨by have := hmn.dataFew; show n.data.xs.length ≤ 5000; omega, by have := hmn.biasFew; show n.bias.xs.length ≤ 5000; omega⟩
          have hk' : n.kind = 3 ∨ n.kind = 4 ∨ n.kind = 5 ∨ n.kind = 9 := by unfold isLin at hk; omega
          (repeat' ((conv => whnf) <;> first | (show drawK _ 16 _ _ _ _ _ _; refine draw_tree tabOk mixed [] _ dtMW1 (by kernel_rfl) (by kernel_rfl) (by kernel_rfl) (List.Sublist.refl _) ?_) | (show idxK _ _ _ _ _; refine idx_of la i rfl rfl hlt ?_) | (show roAggK _ _ _ _; refine roAgg_row (fun R w' h => rowsA_in h.1.1.1.2) _ hrow rfl ?_) | (show @cmpK _ _ _; ((refine cmp_both ?_ ?_ <;> intro _))) | (show drawK _ 6 _ _ _ _ _ _; refine draw_tree tabOk mixed [] _ dtMW0 (by kernel_rfl) (by kernel_rfl) (by kernel_rfl) (List.Sublist.refl _) ?_) | (show drawK _ _ _ _ _ _ _ _; refine draw_quiet tabOk mixed (by kernel_rfl) ?_) | (show Wp _ _ _ _ _ _ _; refine Wp.go tabOk rfl ?_) | (show @cmpK _ _ _; (first | refine cmpY ?_ | refine cmpN ?_ | (refine cmp_both ?_ ?_ <;> intro _))) | (show wrapK _ _ _; refine wrapA ?_) | (show leK _ _ _; refine leA ?_) | (show roomK _ _ _; refine roomA ?_) | (show ltK _ _ _; refine ltA ?_) | (show _ ∧ _; refine ⟨?_, ?_⟩) | (show keepK _ _ _ _ _; refine keepA ?_) | refine own_keep ?_ | refine ap_old ?_))
          all_goals (conv => whnf)
          all_goals try (exfalso; omega)
          (repeat' ((conv => whnf) <;> first | (show drawK _ 16 _ _ _ _ _ _; refine draw_tree tabOk mixed [] _ dtMW1 (by kernel_rfl) (by kernel_rfl) (by kernel_rfl) (List.Sublist.refl _) ?_) | (show idxK _ _ _ _ _; refine idx_of sa an hsa (by omega) hatl ?_) | (show roK _ _ _; (refine ro_row0 (fun R w' h => by rw [← hsa]; exact rowsA_in h.2.1) _ _ hrowT rfl ?_)) | (show callK _ 35 _ _ _ _ _; (refine call_rows ((rowsW n tv.xs zi.1.xs.length, (List.range zi.1.xs.length).map (biasI n zi.1.xs.length)), 0) Try.call35 (fun ρ w' hw => by rw [← hro]; exact rowsLin_any w' (at0 n) tv (holds_of_abs hw fun R h => h0ok h) hsm (holds_of_abs hw fun R h => hso h tv htm)) (fun rx ry hrx hry hrs => ?_))) | (show drawK _ 6 _ _ _ _ _ _; refine draw_tree tabOk mixed [] _ dtMW0 (by kernel_rfl) (by kernel_rfl) (by kernel_rfl) (List.Sublist.refl _) ?_) | (show drawK _ _ _ _ _ _ _ _; refine draw_quiet tabOk mixed (by kernel_rfl) ?_) | (show Wp _ _ _ _ _ _ _; refine Wp.go tabOk rfl ?_) | (show @cmpK _ _ _; (first | refine cmpY ?_ | refine cmpN ?_ | (refine cmp_both ?_ ?_ <;> intro _))) | (show wrapK _ _ _; refine wrapA ?_) | (show leK _ _ _; refine leA ?_) | (show roomK _ _ _; refine roomA ?_) | (show ltK _ _ _; refine ltA ?_) | (show _ ∧ _; refine ⟨?_, ?_⟩) | (show keepK _ _ _ _ _; refine keepA ?_) | refine own_keep ?_ | refine ap_old ?_))
          all_goals
            have hrxl : rx.l.length = zi.1.xs.length := by
              have := congrArg List.length hrx.rows
              rw [List.length_map] at this
              simpa [rowsW] using this
            have hryl : ry.xs.length = zi.1.xs.length := by rw [hry]; simp
            (repeat' ((conv => whnf) <;> first | (show idxK _ _ _ _ _; refine idx_of ba i rfl rfl hiL ?_) | (show roK _ _ _; refine ro_row0 (fun R w' h => rowsA_in h.1.1.2.1) _ _ hrowI rfl ?_) | (show @cmpK _ _ _; refine cmp_no (by omega) ?_) | (show drawK _ 6 _ _ _ _ _ _; refine draw_tree tabOk mixed [] _ dtMW0 (by kernel_rfl) (by kernel_rfl) (by kernel_rfl) (List.Sublist.refl _) ?_) | (show drawK _ _ _ _ _ _ _ _; refine draw_quiet tabOk mixed (by kernel_rfl) ?_) | (show Wp _ _ _ _ _ _ _; refine Wp.go tabOk rfl ?_) | (show @cmpK _ _ _; (first | refine cmpY ?_ | refine cmpN ?_ | (refine cmp_both ?_ ?_ <;> intro _))) | (show wrapK _ _ _; refine wrapA ?_) | (show leK _ _ _; refine leA ?_) | (show roomK _ _ _; refine roomA ?_) | (show ltK _ _ _; refine ltA ?_) | (show _ ∧ _; refine ⟨?_, ?_⟩) | (show keepK _ _ _ _ _; refine keepA ?_) | refine own_keep ?_ | refine ap_old ?_))
            all_goals (conv => whnf)
            refine Wp.loop (σ := Nat) 5 (fun o => [(6, .c (.slice (some ba) L.length cap)), (8, .c sv.val), (10, .c (.int .i64 i)), (12, .c (.int .i64 n.a)), (13, .c rx.val), (14, .c ry.val), (53, .c (.slice (some la) l.length lc)), (54, .c (.int .i64 l.length)), (55, .c (.int .i64 i)), (110, .c rx.val), (111, .c (.int .i64 rx.l.length)), (112, .c (.int .i64 o))]) (fun _ => []) (fun _ => (((((((baseA w).and ((nodesD l).past w.heap.size)).and ((rowsA (some la) 9 (nodeRows l)).past w.heap.size)).and ((shapesD x).past w.heap.size)).and ((allD (some ba) L).past w.heap.size)).and ((shapesD sv).past w.heap.size))).and ((rowsD (rx, ry)).past w.heap.size))
              (fun o => o ≤ rx.l.length) (fun o => rx.l.length - o) 0 [] (by decide) (fun s => ⟨rfl, rfl⟩) (Nat.zero_le _) ⟨rfl, ⟨rfl, rfl, rfl, rfl, rfl, rfl, rfl, rfl, rfl, rfl, rfl, rfl, trivial⟩, trivial, fun _ _ h => h⟩ ?_
            rintro o hol
            by_cases hox : o < rx.l.length
            · have hoc : o < zi.1.xs.length := by omega
              refine Wp.know (p := ∃ a, rx.base = some a) (fun ρ w' hw => holds_of_abs hw fun R h => base_some (j := 0) (rowsA_in h.2.1.1) (by rw [shRows_length]; show 0 < rx.l.length; omega)) ?_
              rintro ⟨xa, hxa⟩
              refine Wp.know (p := ∃ a, ry.base = some a) (fun ρ w' hw => holds_of_abs hw fun R h => base_some (j := 0) (rowsA_in h.2.2) (by rw [ints_length]; show 0 < ry.xs.length; omega)) ?_
              rintro ⟨ya, hya⟩
              refine Wp.know (p := ∃ a, zi.1.base = some a) (fun ρ w' hw => holds_of_abs hw fun R h => (hsrc h.1 zi hmI).base (by omega)) ?_
              rintro ⟨ia, hia⟩
              have hrowU := shRows_get hox
              have hus : rx.l[o].xs = rowW n tv.xs o := by
                have h1 : (rx.l.map IntsV.xs)[o]? = some rx.l[o].xs := by rw [List.getElem?_map, List.getElem?_eq_getElem hox]; rfl
                rw [hrx.rows] at h1
                have h2 : (rowsW n tv.xs zi.1.xs.length)[o]? = some (rowW n tv.xs o) := by unfold rowsW; rw [List.getElem?_map, List.getElem?_range hoc]; rfl
                rw [h2] at h1
                exact (Option.some.inj h1).symm
              have hum := List.getElem_mem hox
              generalize rx.l[o] = u at *
              have hsu := hrx.sane u hum
              have huf := hsu.few
              have hul : u.xs.length = za.1.xs.length := by rw [hus, rowW_length, hargl]
              have hbo : ry.xs.getD o 0 = biasI n zi.1.xs.length o := by rw [hry, List.getD_eq_getElem?_getD, List.getElem?_map, List.getElem?_range hoc]; rfl
              have hb64 : i64 (biasI n zi.1.xs.length o) := by
                rw [← hbo]; exact hrs.fits _ (getD_mem (by omega))
              have hsum := hdoo o hoc
              have hzo : i64 (zi.1.xs.getD o 0) := hzis.fits _ (getD_mem hoc)
              (repeat' ((conv => whnf) <;> first | (show idxK _ _ _ _ _; (first | refine idx_of xa o hxa rfl hox ?_ | refine idx_of ya o hya rfl (by omega) ?_ | refine idx_of ba an rfl (by omega) haL ?_)) | (show roK _ _ _; (first | refine ro_row0 (fun R w' h => by rw [← hxa]; exact rowsA_in h.2.1.1) _ _ hrowU rfl ?_ | refine ro_ivN (fun R w' h => by rw [← hya]; exact rowsA_in h.2.2) (j := o) (by omega) hbo ?_ | refine ro_row0 (fun R w' h => rowsA_in h.1.1.2.1) _ _ hrowA rfl ?_)) | (show @cmpK _ _ _; refine cmp_no (by omega) ?_) | (show drawK _ 6 _ _ _ _ _ _; refine draw_tree tabOk mixed [] _ dtMW0 (by kernel_rfl) (by kernel_rfl) (by kernel_rfl) (List.Sublist.refl _) ?_) | (show drawK _ _ _ _ _ _ _ _; refine draw_quiet tabOk mixed (by kernel_rfl) ?_) | (show Wp _ _ _ _ _ _ _; refine Wp.go tabOk rfl ?_) | (show @cmpK _ _ _; (first | refine cmpY ?_ | refine cmpN ?_ | (refine cmp_both ?_ ?_ <;> intro _))) | (show wrapK _ _ _; refine wrapA ?_) | (show leK _ _ _; refine leA ?_) | (show roomK _ _ _; refine roomA ?_) | (show ltK _ _ _; refine ltA ?_) | (show _ ∧ _; refine ⟨?_, ?_⟩) | (show keepK _ _ _ _ _; refine keepA ?_) | refine own_keep ?_ | refine ap_old ?_))
              all_goals (conv => whnf)
              refine Wp.loop (σ := Nat × Int) 5 (fun ⟨k, v⟩ => [(6, .c (.slice (some ba) L.length cap)), (8, .c sv.val), (10, .c (.int .i64 i)), (12, .c (.int .i64 n.a)), (13, .c rx.val), (14, .c ry.val), (16, .c (.int .i64 o)), (17, .c u.val), (18, .c (.int .i64 v)), (53, .c (.slice (some la) l.length lc)), (54, .c (.int .i64 l.length)), (55, .c (.int .i64 i)), (110, .c rx.val), (111, .c (.int .i64 rx.l.length)), (112, .c (.int .i64 o)), (129, .c u.val), (130, .c (.int .i64 u.xs.length)), (131, .c (.int .i64 k))]) (fun _ => []) (fun _ => (((((((baseA w).and ((nodesD l).past w.heap.size)).and ((rowsA (some la) 9 (nodeRows l)).past w.heap.size)).and ((shapesD x).past w.heap.size)).and ((allD (some ba) L).past w.heap.size)).and ((shapesD sv).past w.heap.size))).and ((rowsD (rx, ry)).past w.heap.size))
                (fun ⟨k, v⟩ => k ≤ u.xs.length ∧ v = W64 (biasI n zi.1.xs.length o + sumG (gNum za.1.xs) 0 (u.xs.take k))) (fun s => u.xs.length - s.1) (0, biasI n zi.1.xs.length o) [] (by decide) (fun s => ⟨rfl, rfl⟩) ⟨Nat.zero_le _, by rw [List.take_zero, sumG, Int.add_zero, W64_self hb64]⟩ ⟨rfl, ⟨rfl, rfl, rfl, rfl, rfl, rfl, rfl, rfl, rfl, rfl, rfl, rfl, rfl, rfl, rfl, rfl, rfl, rfl, trivial⟩, trivial, fun _ _ h => h⟩ ?_
              rintro ⟨k, v⟩ ⟨hkl, hvk⟩
              by_cases hku : k < u.xs.length
              · have hkz : k < za.1.xs.length := by omega
                refine Wp.know (p := ∃ a, u.base = some a) (fun ρ w' hw => holds_of_abs hw fun R h => base_some (j := 0) (rowsA_in (h.2.1.2 u hum)) (by rw [ints_length]; omega)) ?_
                rintro ⟨ua, hua⟩
                refine Wp.know (p := ∃ a, za.1.base = some a) (fun ρ w' hw => holds_of_abs hw fun R h => (hsrc h.1 za hmA).base (by omega)) ?_
                rintro ⟨zb, hzb⟩
                obtain ⟨wk, hwk⟩ : ∃ x, u.xs.getD k 0 = x := ⟨_, rfl⟩
                obtain ⟨ak, hak⟩ : ∃ x, za.1.xs.getD k 0 = x := ⟨_, rfl⟩
                have hstep : W64 (v + W64 (wk * ak)) = W64 (biasI n zi.1.xs.length o + sumG (gNum za.1.xs) 0 (u.xs.take (k + 1))) := by
                  rw [hvk, W64_add, sumG_snoc _ hku, hwk]
                  unfold gNum
                  rw [hak, Int.add_assoc]
                (repeat' ((conv => whnf) <;> first | (show idxK _ _ _ _ _; (first | refine idx_of ua k hua rfl hku ?_ | refine idx_of zb k hzb rfl hkz ?_ | refine idx_of ba an rfl (by omega) haL ?_)) | (show roK _ _ _; (first | refine ro_ivN (fun R w' h => by rw [← hua]; exact rowsA_in (h.2.1.2 u hum)) (j := k) hku hwk ?_ | refine ro_ivN (fun R w' h => by rw [← hzb]; exact (hsrc h.1 za hmA).rows) (j := k) hkz hak ?_ | refine ro_row0 (fun R w' h => rowsA_in h.1.1.2.1) _ _ hrowA rfl ?_)) | (show wrapK _ _ _; (first | refine wrap_i64 (by omega) (by omega) ?_ | refine wrap_Wm ?_)) | (show drawK _ 6 _ _ _ _ _ _; refine draw_tree tabOk mixed [] _ dtMW0 (by kernel_rfl) (by kernel_rfl) (by kernel_rfl) (List.Sublist.refl _) ?_) | (show drawK _ _ _ _ _ _ _ _; refine draw_quiet tabOk mixed (by kernel_rfl) ?_) | (show Wp _ _ _ _ _ _ _; refine Wp.go tabOk rfl ?_) | (show @cmpK _ _ _; (first | refine cmpY ?_ | refine cmpN ?_ | (refine cmp_both ?_ ?_ <;> intro _))) | (show wrapK _ _ _; refine wrapA ?_) | (show leK _ _ _; refine leA ?_) | (show roomK _ _ _; refine roomA ?_) | (show ltK _ _ _; refine ltA ?_) | (show _ ∧ _; refine ⟨?_, ?_⟩) | (show keepK _ _ _ _ _; refine keepA ?_) | refine own_keep ?_ | refine ap_old ?_))
                all_goals (conv => whnf)
                exact ⟨(k + 1, W64 (v + W64 (wk * ak))), [], ⟨hku, hstep⟩, by show u.xs.length - (k + 1) < u.xs.length - k; omega, rfl, ⟨rfl, rfl, rfl, rfl, rfl, rfl, rfl, rfl, rfl, rfl, rfl, rfl, rfl, rfl, rfl, rfl, rfl, rfl, trivial⟩, trivial, fun _ _ h => h⟩
              · have hkn : k = u.xs.length := by omega
                have hvz : v = zi.1.xs.getD o 0 := by
                  rw [hvk, hkn, List.take_length, hus, hsum, W64_self hzo]
                (repeat' ((conv => whnf) <;> first | (show idxK _ _ _ _ _; (first | refine idx_of ba i rfl rfl hiL ?_ | refine idx_of ia o hia rfl hoc ?_)) | (show roK _ _ _; (first | refine ro_row0 (fun R w' h => rowsA_in h.1.1.2.1) _ _ hrowI rfl ?_ | refine ro_ivN (fun R w' h => by rw [← hia]; exact (hsrc h.1 zi hmI).rows) (j := o) hoc hvz.symm ?_)) | (show @cmpK _ _ _; refine cmp_no (by omega) ?_) | (show drawK _ 6 _ _ _ _ _ _; refine draw_tree tabOk mixed [] _ dtMW0 (by kernel_rfl) (by kernel_rfl) (by kernel_rfl) (List.Sublist.refl _) ?_) | (show drawK _ _ _ _ _ _ _ _; refine draw_quiet tabOk mixed (by kernel_rfl) ?_) | (show Wp _ _ _ _ _ _ _; refine Wp.go tabOk rfl ?_) | (show @cmpK _ _ _; (first | refine cmpY ?_ | refine cmpN ?_ | (refine cmp_both ?_ ?_ <;> intro _))) | (show wrapK _ _ _; refine wrapA ?_) | (show leK _ _ _; refine leA ?_) | (show roomK _ _ _; refine roomA ?_) | (show ltK _ _ _; refine ltA ?_) | (show _ ∧ _; refine ⟨?_, ?_⟩) | (show keepK _ _ _ _ _; refine keepA ?_) | refine own_keep ?_ | refine ap_old ?_))
                all_goals (conv => whnf)
                exact ⟨o + 1, [], hox, by omega, rfl, ⟨rfl, rfl, rfl, rfl, rfl, rfl, rfl, rfl, rfl, rfl, rfl, rfl, trivial⟩, trivial, fun _ _ h => h⟩
            · (repeat' ((conv => whnf) <;> first | (show drawK _ 6 _ _ _ _ _ _; refine draw_tree tabOk mixed [] _ dtMW0 (by kernel_rfl) (by kernel_rfl) (by kernel_rfl) (List.Sublist.refl _) ?_) | (show drawK _ _ _ _ _ _ _ _; refine draw_quiet tabOk mixed (by kernel_rfl) ?_) | (show Wp _ _ _ _ _ _ _; refine Wp.go tabOk rfl ?_) | (show @cmpK _ _ _; (first | refine cmpY ?_ | refine cmpN ?_ | (refine cmp_both ?_ ?_ <;> intro _))) | (show wrapK _ _ _; refine wrapA ?_) | (show leK _ _ _; refine leA ?_) | (show roomK _ _ _; refine roomA ?_) | (show ltK _ _ _; refine ltA ?_) | (show _ ∧ _; refine ⟨?_, ?_⟩) | (show keepK _ _ _ _ _; refine keepA ?_) | refine own_keep ?_ | refine ap_old ?_))
              all_goals (conv => whnf)
              exact ⟨i + 1, [], hlt, by omega, rfl, ⟨rfl, rfl, rfl, rfl, rfl, trivial⟩, trivial, fun _ _ h => h.1⟩
        · have hk' : n.kind ≠ 3 ∧ n.kind ≠ 4 ∧ n.kind ≠ 5 ∧ n.kind ≠ 9 := by unfold isLin at hk; omega
          (repeat' ((conv => whnf) <;> first | (show idxK _ _ _ _ _; refine idx_of la i rfl rfl hlt ?_) | (show roAggK _ _ _ _; refine roAgg_row (fun R w' h => rowsA_in h.1.1.1.2) _ hrow rfl ?_) | (show @cmpK _ _ _; refine cmp_yes (by omega) ?_) | (show drawK _ 6 _ _ _ _ _ _; refine draw_tree tabOk mixed [] _ dtMW0 (by kernel_rfl) (by kernel_rfl) (by kernel_rfl) (List.Sublist.refl _) ?_) | (show drawK _ _ _ _ _ _ _ _; refine draw_quiet tabOk mixed (by kernel_rfl) ?_) | (show Wp _ _ _ _ _ _ _; refine Wp.go tabOk rfl ?_) | (show @cmpK _ _ _; (first | refine cmpY ?_ | refine cmpN ?_ | (refine cmp_both ?_ ?_ <;> intro _))) | (show wrapK _ _ _; refine wrapA ?_) | (show leK _ _ _; refine leA ?_) | (show roomK _ _ _; refine roomA ?_) | (show ltK _ _ _; refine ltA ?_) | (show _ ∧ _; refine ⟨?_, ?_⟩) | (show keepK _ _ _ _ _; refine keepA ?_) | refine own_keep ?_ | refine ap_old ?_))
          all_goals (conv => whnf)
          all_goals exact ⟨i + 1, [], hlt, by omega, rfl, ⟨rfl, rfl, rfl, rfl, rfl, trivial⟩, trivial, fun _ _ h => h⟩
      · (repeat' ((conv => whnf) <;> first | (show drawK _ 6 _ _ _ _ _ _; refine draw_tree tabOk mixed [] _ dtMW0 (by kernel_rfl) (by kernel_rfl) (by kernel_rfl) (List.Sublist.refl _) ?_) | (show drawK _ _ _ _ _ _ _ _; refine draw_quiet tabOk mixed (by kernel_rfl) ?_) | (show Wp _ _ _ _ _ _ _; refine Wp.go tabOk rfl ?_) | (show @cmpK _ _ _; (first | refine cmpY ?_ | refine cmpN ?_ | (refine cmp_both ?_ ?_ <;> intro _))) | (show wrapK _ _ _; refine wrapA ?_) | (show leK _ _ _; refine leA ?_) | (show roomK _ _ _; refine roomA ?_) | (show ltK _ _ _; refine ltA ?_) | (show _ ∧ _; refine ⟨?_, ?_⟩) | (show keepK _ _ _ _ _; refine keepA ?_) | refine own_keep ?_ | refine ap_old ?_))
        all_goals (conv => whnf)
        all_goals exact ends_bool (B := ⟨w, []⟩) (fun R w' h => h.1.1.1.1.1) rfl rfl
  · refine calls_of tab tabOk Try.func14 rfl rfl rfl [] (fun _ => ⟨none, 0⟩) [.c t.val, .c d.val] [] (baseA w) 0 rfl rfl (by show 2 ≤ _; decide) (abs_base w) ?_
    (repeat' ((conv => whnf) <;> first | (show callK _ 27 _ _ _ _ _; refine call_pure (f := 27) Try.call27 (.bool true) (fun ρ w' hw => fixed19_any w') ?_) | (show drawK _ 6 _ _ _ _ _ _; refine draw_tree tabOk mixed [] _ dtMW0 (by kernel_rfl) (by kernel_rfl) (by kernel_rfl) (List.Sublist.refl _) ?_) | (show drawK _ _ _ _ _ _ _ _; refine draw_quiet tabOk mixed (by kernel_rfl) ?_) | (show Wp _ _ _ _ _ _ _; refine Wp.go tabOk rfl ?_) | (show @cmpK _ _ _; (first | refine cmpY ?_ | refine cmpN ?_ | (refine cmp_both ?_ ?_ <;> intro _))) | (show wrapK _ _ _; refine wrapA ?_) | (show leK _ _ _; refine leA ?_) | (show roomK _ _ _; refine roomA ?_) | (show ltK _ _ _; refine ltA ?_) | (show _ ∧ _; refine ⟨?_, ?_⟩) | (show keepK _ _ _ _ _; refine keepA ?_) | refine own_keep ?_ | refine ap_old ?_))
    all_goals (conv => whnf)
    all_goals first | exact ends_bool (fun _ _ h => h) rfl rfl | (exfalso; omega)
end Go.Proofs.Ytdmkdogakbipbaa

