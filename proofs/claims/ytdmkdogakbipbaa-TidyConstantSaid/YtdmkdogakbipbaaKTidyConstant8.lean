import Derived.Test.YtdmkdogakbipbaaKTidyConstant7
/- NH -/
namespace Go.Proofs.Ytdmkdogakbipbaa
open Go.SX Go.RowKit
theorem own_eq {i n m k : Nat} {xs ys : List (List Value)} {T : TypeId} {H : Heap} {S : Asn} {nx : Nat} {K : SV → Heap → Asn → Nat → Prop} (h : K (.os i m) ((i, .rows ys k T) :: H) S nx) (e : xs = ys) (en : n = m) : ownK (.os i n) ((i, .rows xs k T) :: H) S nx K := by subst e en; exact own_keep h
theorem i64_2 : i64 2 := ⟨by decide, by decide⟩
/-- a node as a constant, in new memory -/
def constN (u x : IntsV) : NodeV := ⟨2, 0, 0, u, 0, 0, 0, x, nilI⟩
def FoldPost (w : World) (s d : List Int) (e : Ending) (w' : World) : Prop :=
  ∃ u x : IntsV, u.xs = s ∧ u.sane ∧ x.xs = d ∧ x.sane ∧ e = .returned (constN u x).valA ∧ Ext w w' ∧ (intsA u).holds (fun b => w.heap.size ≤ b ∧ b < w'.heap.size) w' ∧ (intsA x).holds (fun b => w.heap.size ≤ b ∧ b < w'.heap.size) w'
theorem fold_ends {B : Base} {v : SV} {H : Heap} {S : Asn} {nx : Nat} {w : World} {s d : List Int} {u x : IntsV} (hb : ∀ R w', S.holds R w' → (baseA B.w0).holds R w') (hw0 : B.w0 = w) (hu : u.xs = s) (hus : u.sane) (hx : x.xs = d) (hxs : x.sane) (hv : ∀ ρ, v.rf ρ = (constN u x).valA) (h1 : ∀ R w', S.holds R w' → ((intsA u).past B.w0.heap.size).holds R w') (h2 : ∀ R w', S.holds R w' → ((intsA x).past B.w0.heap.size).holds R w') : finK B v H S nx (FoldPost w s d) := by
  subst hw0
  exact fin_of fun ρ w' hw => ⟨u, x, hu, hus, hx, hxs, by rw [hv], ext_of_abs hw hb, past_new hw h1, past_new hw h2⟩
section
variable {w : World} {b : Nat} {nb sb : Option Addr} {nc sc : Nat} {kept : List NodeV} {st : List Int} {rsh : List (List Int)} {rsp : List Sp} {s : List Int}
theorem keptD {kept : List NodeV} {k : Nat} (h : k < kept.length) : (kept.map NodeV.pl).getD k nilP = kept[k].pl := by
  rw [List.getD_eq_getElem?_getD, List.getElem?_map, List.getElem?_eq_getElem h]; rfl
theorem atV_ok {w : World} {n : NodeV} {a b : Int} (h : n.ok w) (ha : i64 a) (hb : i64 b) : (atV n a b).ok w := ⟨h.shape, h.data, h.bias, h.kindFits, ha, hb, h.loFits, h.hiFits, h.sizeFits⟩
set_option maxRecDepth 20000 in
set_option maxHeartbeats 2000000 in
theorem folded_one (hd : DeskAt w b nb nc kept sb sc st) (hko : ∀ k ∈ kept, k.ok w ∧ k.small) (hR : RowOk (kept.map NodeV.pl) rsh rsp) (n : NodeV) (hno : n.ok w) (hns : n.small) (hm : NodeIn n.pl.toV rsh s) (hk : knownP (kept.map NodeV.pl) n.pl = true) (h1 : -1048576 ≤ (spanP n.pl s rsh rsp).1) (h2 : (spanP n.pl s rsh rsp).2 ≤ 1048576) (h6 : n.kind ≠ 6) :
    Calls Try.prog 50 #[.pointer (some ⟨b, 0, none⟩), n.valA] w (FoldPost w s (numsP s (kept.map NodeV.pl) n.pl)) := by
  have hK := known_in hR hm hk
  have hlen := hR.lenS
  have hfew : kept.length ≤ 1000000 ∨ 1000000 < kept.length := by omega
  have kk : n.pl.kind = n.kind := rfl
  have ka : n.pl.a = n.a := rfl
  have hah := aheadP_of hm.form
  have ha0 := hah.a0
  have h12 := hK.kind
  have aLt := hK.aLt
  rw [ka] at ha0 aLt
  rw [kk] at h12
  rw [List.length_map] at aLt
  have hkA : constV kept n.a = true := by
    have := hK.aK
    rw [ka, keptD aLt] at this
    rw [← constV_at aLt]
    exact decide_eq_true this
  obtain ⟨na, hna⟩ : ∃ a, nb = some a := base_some (j := n.a.toNat) hd.nodes (by rw [nodeRows_length]; omega)
  have hrow := nodeRows_get aLt
  have hAo := hko _ (List.getElem_mem aLt)
  have hAp := keptD aLt
  generalize hAe : kept[n.a.toNat] = A at *
  have hb0 : n.b = 0 := hah.b2 h6
  have hLo : ∀ m ∈ [A, atV n 0 n.b], m.ok w ∧ m.small := fun m hm => by
    simp only [List.mem_cons, List.not_mem_nil, or_false] at hm
    rcases hm with rfl | rfl
    · exact hAo
    · exact ⟨atV_ok hno i64_0 hno.bFits, hns.data, hns.bias⟩
  obtain ⟨hG1, hG2, hG3⟩ := tiny_ok hR hm hK h1 h2 (g := (GraphV.mk none 0 [A, atV n 0 n.b] 1)) (by unfold tinyL; rw [if_neg (show ¬ n.pl.kind = 6 from h6), ka, hAp]; rfl) (by unfold tinyOut; rw [if_neg (show ¬ n.pl.kind = 6 from h6)])
  have hG2 : gD (check (GraphV.mk none 0 [A, atV n 0 n.b] 1)).2 1 = s := hG2
  have hG4 : (check (GraphV.mk none 0 [A, atV n 0 n.b] 1)).2.length = 2 := (check_in hG1).2.2.2.1
  refine calls_of tab tabOk Try.func50 rfl rfl rfl [] (fun _ => ⟨none, 0⟩) [.c (.pointer (some ⟨b, 0, none⟩)), .agg [.c (.int .i64 n.kind), .c (.int .i64 n.a), .c (.int .i64 n.b), .c n.shape.val, .c (.int .i64 n.lo), .c (.int .i64 n.hi), .c (.int .i64 n.size), .c n.data.val, .c n.bias.val]] [] (baseA w) 0 rfl rfl (by show 2 ≤ _; decide) (abs_base w) ?_
  (repeat' ((conv => whnf) <;> first | (show callK _ 80 [_, .c (.int .i64 n.a)] _ _ _ _; refine call_pure (f := 80) Try.call80 (.bool true) (fun ρ w' hw => deskFixed_at (holds_of_abs hw fun R h => hd.later h) ha0 aLt hkA) ?_) | (show roK _ _ _; (first | refine ro_cell (fun R w' h => by simp only [add_none]; exact (hd.later h).c0) ?_ | refine ro_cell (fun R w' h => by simp only [add_none]; exact (hd.later h).c2) ?_)) | (show idxK _ _ _ _ _; refine idx_of na n.a.toNat hna (by omega) aLt ?_) | (show roAggK _ _ _ _; (refine roAgg_row (fun R w' h => by rw [← hna]; exact rows_base h hd.nodes) _ hrow rfl ?_)) | (show roomK _ _ _; refine room_of (show (2 : Nat) * 120 ≤ 140737488355328 by decide) ?_) | (show drawK _ 3 _ _ _ _ _ _; refine draw_tree tabOk mixed [12] _ dtNG0 (by kernel_rfl) (by kernel_rfl) (by kernel_rfl) (List.Sublist.refl _) ?_) | (show drawK _ 6 _ _ _ _ _ _; refine draw_tree tabOk mixed [14, 16] _ dtNG1 (by kernel_rfl) (by kernel_rfl) (by kernel_rfl) (List.Sublist.refl _) ?_) | (show Wp _ _ _ _ _ _ _; refine Wp.go tabOk rfl ?_) | (show @cmpK _ _ _; (first | refine cmpY ?_ | refine cmpN ?_ | (refine cmp_both ?_ ?_ <;> intro _))) | (show wrapK _ _ _; refine wrapA ?_) | (show leK _ _ _; refine leA ?_) | (show roomK _ _ _; refine roomA ?_) | (show ltK _ _ _; refine ltA ?_) | (show _ ∧ _; refine ⟨?_, ?_⟩) | (show keepK _ _ _ _ _; refine keepA ?_) | refine own_keep ?_ | refine ap_old ?_))
  all_goals (conv => whnf)
  all_goals refine call_check (f := 43) (check (GraphV.mk none 0 [A, atV n 0 n.b] 1)) Try.call43 (fun ρ w' hw => check_any w' ⟨(ρ 5).base, (ρ 5).cap, [A, atV n 0 n.b], 1⟩ ⟨rows_of_abs hw List.mem_cons_self, fun m hm => holds_of_abs hw fun R h => (hLo m hm).1.later h, fun m hm => (hLo m hm).2, show 2 ≤ 1000000 by decide, i64_1⟩) (fun hne => absurd hG1 hne) (fun _ sv hmv hsv => ?_)
  all_goals
    have hsl : sv.l.length = 2 := by rw [← List.length_map (f := fun u : IntsV => u.xs), hmv]; exact hG4
    have hs1 : 1 < sv.l.length := by omega
    have hsx : sv.l[1].xs = s := by
      rw [← hG2, ← hmv]
      unfold gD
      rw [List.getD_eq_getElem?_getD, List.getElem?_map, List.getElem?_eq_getElem hs1]; rfl
    (repeat' ((conv => whnf) <;> first | (show drawK _ 3 _ _ _ _ _ _; refine draw_tree tabOk mixed [12] _ dtNG0 (by kernel_rfl) (by kernel_rfl) (by kernel_rfl) (List.Sublist.refl _) ?_) | (show drawK _ 6 _ _ _ _ _ _; refine draw_tree tabOk mixed [14, 16] _ dtNG1 (by kernel_rfl) (by kernel_rfl) (by kernel_rfl) (List.Sublist.refl _) ?_) | (show @cmpK _ _ _; (first | refine cmpY ?_ | refine cmpN ?_ | (refine cmp_both ?_ ?_ <;> intro _))) | (show wrapK _ _ _; refine wrapA ?_) | (show leK _ _ _; refine leA ?_) | (show roomK _ _ _; refine roomA ?_) | (show ltK _ _ _; refine ltA ?_) | (show _ ∧ _; refine ⟨?_, ?_⟩) | (show keepK _ _ _ _ _; refine keepA ?_) | refine own_keep ?_ | refine ap_old ?_))
  all_goals refine Wp.know (p := ∃ a, sv.base = some a) (fun ρ w' hw => holds_of_abs hw fun R h => base_some (j := 1) (rowsA_in h.2.1) (by rw [shRows_length]; omega)) ?_
  all_goals
    rintro ⟨sa, hsa⟩
    refine Wp.go tabOk rfl ?_
    (repeat' ((conv => whnf) <;> first | (show callK _ 18 _ _ _ _ _; refine call_run (f := 18) (runH (GraphV.mk none 0 [A, atV n 0 n.b] 1) []) Try.call18 (fun ρ w' hw => run_all w' ⟨(ρ 5).base, (ρ 5).cap, [A, atV n 0 n.b], 1⟩ ⟨rows_of_abs hw List.mem_cons_self, fun m hm => holds_of_abs hw fun R h => (hLo m hm).1.later h.1, fun m hm => (hLo m hm).2, show 2 ≤ 1000000 by decide, i64_1⟩ ⟨none, 0, []⟩ ⟨.inl rfl, fun u hu => by simp at hu, Nat.le_refl _, Nat.zero_le _⟩) (fun hne => absurd (by rw [hG3]) hne) (fun _ x hx hxs => ?_)) | (show idxK _ _ _ _ _; refine idx_of sa 1 hsa rfl hs1 ?_) | (show roK _ _ _; (refine ro_row0 (fun R w' h => by rw [← hsa]; exact rowsA_in (by first | exact h.2.1 | exact h.1.2.1)) _ _ (shRows_get hs1) rfl ?_)) | (show drawK _ 3 _ _ _ _ _ _; refine draw_tree tabOk mixed [12] _ dtNG0 (by kernel_rfl) (by kernel_rfl) (by kernel_rfl) (List.Sublist.refl _) ?_) | (show drawK _ 6 _ _ _ _ _ _; refine draw_tree tabOk mixed [14, 16] _ dtNG1 (by kernel_rfl) (by kernel_rfl) (by kernel_rfl) (List.Sublist.refl _) ?_) | (show Wp _ _ _ _ _ _ _; refine Wp.go tabOk rfl ?_) | (show @cmpK _ _ _; (first | refine cmpY ?_ | refine cmpN ?_ | (refine cmp_both ?_ ?_ <;> intro _))) | (show wrapK _ _ _; refine wrapA ?_) | (show leK _ _ _; refine leA ?_) | (show roomK _ _ _; refine roomA ?_) | (show ltK _ _ _; refine ltA ?_) | (show _ ∧ _; refine ⟨?_, ?_⟩) | (show keepK _ _ _ _ _; refine keepA ?_) | refine own_keep ?_ | refine ap_old ?_))
  all_goals (conv => whnf)
  all_goals exact fold_ends (fun R w' h => h.1.1) rfl hsx (hsv _ (List.getElem_mem hs1)) (by rw [hx, hG3]) hxs (fun _ => rfl) (fun R w' h => h.1.2.2 _ (List.getElem_mem hs1)) (fun R w' h => h.2)
set_option maxRecDepth 20000 in
set_option maxHeartbeats 2000000 in
theorem folded_two (hd : DeskAt w b nb nc kept sb sc st) (hko : ∀ k ∈ kept, k.ok w ∧ k.small) (hR : RowOk (kept.map NodeV.pl) rsh rsp) (n : NodeV) (hno : n.ok w) (hns : n.small) (hm : NodeIn n.pl.toV rsh s) (hk : knownP (kept.map NodeV.pl) n.pl = true) (h1 : -1048576 ≤ (spanP n.pl s rsh rsp).1) (h2 : (spanP n.pl s rsh rsp).2 ≤ 1048576) (h6 : n.kind = 6) :
    Calls Try.prog 50 #[.pointer (some ⟨b, 0, none⟩), n.valA] w (FoldPost w s (numsP s (kept.map NodeV.pl) n.pl)) := by
  have hK := known_in hR hm hk
  have hlen := hR.lenS
  have hfew : kept.length ≤ 1000000 ∨ 1000000 < kept.length := by omega
  have kk : n.pl.kind = n.kind := rfl
  have ka : n.pl.a = n.a := rfl
  have hah := aheadP_of hm.form
  have ha0 := hah.a0
  have h12 := hK.kind
  have aLt := hK.aLt
  rw [ka] at ha0 aLt
  rw [kk] at h12
  rw [List.length_map] at aLt
  have hkA : constV kept n.a = true := by
    have := hK.aK
    rw [ka, keptD aLt] at this
    rw [← constV_at aLt]
    exact decide_eq_true this
  obtain ⟨na, hna⟩ : ∃ a, nb = some a := base_some (j := n.a.toNat) hd.nodes (by rw [nodeRows_length]; omega)
  have hrow := nodeRows_get aLt
  have hAo := hko _ (List.getElem_mem aLt)
  have hAp := keptD aLt
  generalize hAe : kept[n.a.toNat] = A at *
  have kb : n.pl.b = n.b := rfl
  have hb0 := hah.b0
  have bLt := hK.bLt h6
  rw [kb] at hb0 bLt
  rw [List.length_map] at bLt
  have hkB : constV kept n.b = true := by
    have := hK.bK h6
    rw [kb, keptD bLt] at this
    rw [← constV_at bLt]
    exact decide_eq_true this
  have hrowB := nodeRows_get bLt
  have hBo := hko _ (List.getElem_mem bLt)
  have hBp := keptD bLt
  generalize hBe : kept[n.b.toNat] = Bn at *
  have hLo : ∀ m ∈ [A, Bn, atV n 0 1], m.ok w ∧ m.small := fun m hm => by
    simp only [List.mem_cons, List.not_mem_nil, or_false] at hm
    rcases hm with rfl | rfl | rfl
    · exact hAo
    · exact hBo
    · exact ⟨atV_ok hno i64_0 i64_1, hns.data, hns.bias⟩
  obtain ⟨hG1, hG2, hG3⟩ := tiny_ok hR hm hK h1 h2 (g := (GraphV.mk none 0 [A, Bn, atV n 0 1] 2)) (by unfold tinyL; rw [if_pos (show n.pl.kind = 6 from h6), ka, hAp, kb, hBp]; rfl) (by unfold tinyOut; rw [if_pos (show n.pl.kind = 6 from h6)])
  have hG2 : gD (check (GraphV.mk none 0 [A, Bn, atV n 0 1] 2)).2 2 = s := hG2
  have hG4 : (check (GraphV.mk none 0 [A, Bn, atV n 0 1] 2)).2.length = 3 := (check_in hG1).2.2.2.1
  refine calls_of tab tabOk Try.func50 rfl rfl rfl [] (fun _ => ⟨none, 0⟩) [.c (.pointer (some ⟨b, 0, none⟩)), .agg [.c (.int .i64 n.kind), .c (.int .i64 n.a), .c (.int .i64 n.b), .c n.shape.val, .c (.int .i64 n.lo), .c (.int .i64 n.hi), .c (.int .i64 n.size), .c n.data.val, .c n.bias.val]] [] (baseA w) 0 rfl rfl (by show 2 ≤ _; decide) (abs_base w) ?_
  (repeat' ((conv => whnf) <;> first | (show callK _ 80 [_, .c (.int .i64 n.a)] _ _ _ _; refine call_pure (f := 80) Try.call80 (.bool true) (fun ρ w' hw => deskFixed_at (holds_of_abs hw fun R h => hd.later h) ha0 aLt hkA) ?_) | (show callK _ 80 [_, .c (.int .i64 n.b)] _ _ _ _; refine call_pure (f := 80) Try.call80 (.bool true) (fun ρ w' hw => deskFixed_at (holds_of_abs hw fun R h => hd.later h) hb0 bLt hkB) ?_) | (show ownK _ ((_, .rows (List.take 1 _ ++ _) _ _) :: _) _ _ _; refine own_eq (ys := nodeRows [A, Bn]) (m := 2) ?_ rfl rfl) | (show ownK _ ((_, .rows (List.take 2 _ ++ _) _ _) :: _) _ _ _; refine own_eq (ys := nodeRows [A, Bn, atV n 0 1]) (m := 3) ?_ rfl rfl) | (show leK _ _ _; refine le_of (of_decide_eq_true rfl) ?_) | (show keepK _ _ _ _ _; (first | refine keep_of (List.Sublist.cons _ (List.Sublist.cons _ (List.Sublist.refl _))) (fun _ _ h => h) ?_ | refine keep_of (List.Sublist.cons _ (List.Sublist.cons_cons _ (List.Sublist.cons _ (List.Sublist.refl _)))) (fun _ _ h => h) ?_ | refine keep_of (List.Sublist.cons _ (List.Sublist.refl _)) (fun _ _ h => h) ?_)) | (show drawK _ 6 _ _ _ _ _ _; (first | (show drawK _ 6 _ _ ((_, .rows _ _ _) :: _) _ _ _; refine draw_tree tabOk mixed [14, 15, 16] _ dtNG1 (by kernel_rfl) (by kernel_rfl) (by kernel_rfl) (List.Sublist.cons _ (List.Sublist.refl _)) ?_) | (show drawK _ 6 _ _ ((_, .box _ _) :: _) _ _ _; refine draw_tree tabOk mixed [14, 15, 16] _ dtNG1 (by kernel_rfl) (by kernel_rfl) (by kernel_rfl) (List.Sublist.cons_cons _ (List.Sublist.cons _ (List.Sublist.refl _))) ?_))) | (show roK _ _ _; (first | refine ro_cell (fun R w' h => by simp only [add_none]; exact (hd.later h).c0) ?_ | refine ro_cell (fun R w' h => by simp only [add_none]; exact (hd.later h).c2) ?_)) | (show idxK _ _ _ _ _; (first | refine idx_of na n.a.toNat hna (by omega) aLt ?_ | refine idx_of na n.b.toNat hna (by omega) bLt ?_)) | (show roAggK _ _ _ _; (first | refine roAgg_row (fun R w' h => by rw [← hna]; exact rows_base h hd.nodes) _ hrow rfl ?_ | refine roAgg_row (fun R w' h => by rw [← hna]; exact rows_base h hd.nodes) _ hrowB rfl ?_)) | (show roomK _ _ _; refine room_of (of_decide_eq_true rfl) ?_) | (show drawK _ 3 _ _ _ _ _ _; refine draw_tree tabOk mixed [12] _ dtNG0 (by kernel_rfl) (by kernel_rfl) (by kernel_rfl) (List.Sublist.refl _) ?_) | (show Wp _ _ _ _ _ _ _; refine Wp.go tabOk rfl ?_) | (show @cmpK _ _ _; (first | refine cmpY ?_ | refine cmpN ?_ | (refine cmp_both ?_ ?_ <;> intro _))) | (show wrapK _ _ _; refine wrapA ?_) | (show leK _ _ _; refine leA ?_) | (show roomK _ _ _; refine roomA ?_) | (show ltK _ _ _; refine ltA ?_) | (show _ ∧ _; refine ⟨?_, ?_⟩) | (show keepK _ _ _ _ _; refine keepA ?_) | refine own_keep ?_ | refine ap_old ?_))
  all_goals (conv => whnf)
  all_goals refine call_check (f := 43) (check (GraphV.mk none 0 [A, Bn, atV n 0 1] 2)) Try.call43 (fun ρ w' hw => check_any w' ⟨(ρ 7).base, (ρ 7).cap, [A, Bn, atV n 0 1], 2⟩ ⟨rows_of_abs hw List.mem_cons_self, fun m hm => holds_of_abs hw fun R h => (hLo m hm).1.later h, fun m hm => (hLo m hm).2, show 3 ≤ 1000000 by decide, i64_2⟩) (fun hne => absurd hG1 hne) (fun _ sv hmv hsv => ?_)
  all_goals
    have hsl : sv.l.length = 3 := by rw [← List.length_map (f := fun u : IntsV => u.xs), hmv]; exact hG4
    have hs1 : 2 < sv.l.length := by omega
    have hsx : sv.l[2].xs = s := by
      rw [← hG2, ← hmv]
      unfold gD
      rw [List.getD_eq_getElem?_getD, List.getElem?_map, List.getElem?_eq_getElem hs1]; rfl
    (repeat' ((conv => whnf) <;> first | (show drawK _ 3 _ _ _ _ _ _; refine draw_tree tabOk mixed [12] _ dtNG0 (by kernel_rfl) (by kernel_rfl) (by kernel_rfl) (List.Sublist.refl _) ?_) | (show drawK _ 6 _ _ _ _ _ _; refine draw_tree tabOk mixed [14, 16] _ dtNG1 (by kernel_rfl) (by kernel_rfl) (by kernel_rfl) (List.Sublist.refl _) ?_) | (show @cmpK _ _ _; (first | refine cmpY ?_ | refine cmpN ?_ | (refine cmp_both ?_ ?_ <;> intro _))) | (show wrapK _ _ _; refine wrapA ?_) | (show leK _ _ _; refine leA ?_) | (show roomK _ _ _; refine roomA ?_) | (show ltK _ _ _; refine ltA ?_) | (show _ ∧ _; refine ⟨?_, ?_⟩) | (show keepK _ _ _ _ _; refine keepA ?_) | refine own_keep ?_ | refine ap_old ?_))
  all_goals refine Wp.know (p := ∃ a, sv.base = some a) (fun ρ w' hw => holds_of_abs hw fun R h => base_some (j := 2) (rowsA_in h.2.1) (by rw [shRows_length]; omega)) ?_
  all_goals
    rintro ⟨sa, hsa⟩
    refine Wp.go tabOk rfl ?_
    (repeat' ((conv => whnf) <;> first | (show callK _ 18 _ _ _ _ _; refine call_run (f := 18) (runH (GraphV.mk none 0 [A, Bn, atV n 0 1] 2) []) Try.call18 (fun ρ w' hw => run_all w' ⟨(ρ 7).base, (ρ 7).cap, [A, Bn, atV n 0 1], 2⟩ ⟨rows_of_abs hw List.mem_cons_self, fun m hm => holds_of_abs hw fun R h => (hLo m hm).1.later h.1, fun m hm => (hLo m hm).2, show 3 ≤ 1000000 by decide, i64_2⟩ ⟨none, 0, []⟩ ⟨.inl rfl, fun u hu => by simp at hu, Nat.le_refl _, Nat.zero_le _⟩) (fun hne => absurd (by rw [hG3]) hne) (fun _ x hx hxs => ?_)) | (show idxK _ _ _ _ _; refine idx_of sa 2 hsa rfl hs1 ?_) | (show roK _ _ _; (refine ro_row0 (fun R w' h => by rw [← hsa]; exact rowsA_in (by first | exact h.2.1 | exact h.1.2.1)) _ _ (shRows_get hs1) rfl ?_)) | (show drawK _ 3 _ _ _ _ _ _; refine draw_tree tabOk mixed [12] _ dtNG0 (by kernel_rfl) (by kernel_rfl) (by kernel_rfl) (List.Sublist.refl _) ?_) | (show drawK _ 6 _ _ _ _ _ _; refine draw_tree tabOk mixed [14, 16] _ dtNG1 (by kernel_rfl) (by kernel_rfl) (by kernel_rfl) (List.Sublist.refl _) ?_) | (show Wp _ _ _ _ _ _ _; refine Wp.go tabOk rfl ?_) | (show @cmpK _ _ _; (first | refine cmpY ?_ | refine cmpN ?_ | (refine cmp_both ?_ ?_ <;> intro _))) | (show wrapK _ _ _; refine wrapA ?_) | (show leK _ _ _; refine leA ?_) | (show roomK _ _ _; refine roomA ?_) | (show ltK _ _ _; refine ltA ?_) | (show _ ∧ _; refine ⟨?_, ?_⟩) | (show keepK _ _ _ _ _; refine keepA ?_) | refine own_keep ?_ | refine ap_old ?_))
  all_goals (conv => whnf)
  all_goals exact fold_ends (fun R w' h => h.1.1) rfl hsx (hsv _ (List.getElem_mem hs1)) (by rw [hx, hG3]) hxs (fun _ => rfl) (fun R w' h => h.1.2.2 _ (List.getElem_mem hs1)) (fun R w' h => h.2)
end
end Go.Proofs.Ytdmkdogakbipbaa

/- NN -/
namespace Go.Proofs.Ytdmkdogakbipbaa
abbrev dtNN0 : Go.SX.DT := (.take 0 (.take 1 (.take 3 (.take 4 (.take 6 (.take 7 (.one 2 (.take 9 (.one 5 (.one 8 (.one 10 (.one 11 (.one 12 (.one 13 (.one 14 (.done))))))))))))))))
abbrev dtNN1 : Go.SX.DT := (.take 0 (.take 1 (.take 2 (.take 3 (.take 4 (.take 5 (.take 6 (.one 7 (.one 8 (.one 9 (.one 10 (.take 11 (.one 12 (.done))))))))))))))
open Go.SX Go.RowKit
def nodeT (n : NodeV) : Asn := (intsT n.shape).and ((intsT n.data).and (intsT n.bias))
def keptA (N : Nat) (l : List NodeV) : Asn where
  holds R w := ∀ n ∈ l, ((nodeT n).past N).holds R w
  stable := fun hR hw h n hn => ((nodeT n).past N).stable hR hw (h n hn)
theorem keptA_nil (N : Nat) (R : Nat → Prop) (w : World) : (keptA N []).holds R w := fun n hn => by simp at hn
theorem keptA_snoc {N : Nat} {l : List NodeV} {n : NodeV} {R : Nat → Prop} {w : World} (h : (keptA N l).holds R w) (hn : ((nodeT n).past N).holds R w) : (keptA N (l ++ [n])).holds R w := fun m hm => by
  rcases List.mem_append.1 hm with hm | hm
  · exact h m hm
  · rw [List.mem_singleton.1 hm]; exact hn
structure NodeV.saneN (n : NodeV) : Prop where
  shape : n.shape.sane
  data : n.data.sane
  bias : n.bias.sane
  kindFits : i64 n.kind
  aFits : i64 n.a
  bFits : i64 n.b
  loFits : i64 n.lo
  hiFits : i64 n.hi
  sizeFits : i64 n.size
theorem NodeV.ok.saneN {w : World} {n : NodeV} (h : n.ok w) : n.saneN := ⟨h.shape.sane, h.data.sane, h.bias.sane, h.kindFits, h.aFits, h.bFits, h.loFits, h.hiFits, h.sizeFits⟩
def KeptOk (l : List NodeV) : Prop := ∀ n ∈ l, n.saneN ∧ n.small
theorem nodeT_ok {n : NodeV} {R : Nat → Prop} {w : World} {N : Nat} (hs : n.saneN) (h : ((nodeT n).past N).holds R w) : n.ok w :=
  ⟨intsA_ok hs.shape (intsT_A h.1), intsA_ok hs.data (intsT_A h.2.1), intsA_ok hs.bias (intsT_A h.2.2), hs.kindFits, hs.aFits, hs.bFits, hs.loFits, hs.hiFits, hs.sizeFits⟩
theorem kept_ok {l : List NodeV} {R : Nat → Prop} {w : World} {N : Nat} (hk : KeptOk l) (h : (keptA N l).holds R w) : ∀ n ∈ l, n.ok w ∧ n.small := fun n hn => ⟨nodeT_ok (hk n hn).1 (h n hn), (hk n hn).2⟩
theorem call_cloneT {cx : Cx} {f : FuncId} {args : List SV} {H : Heap} {S : Asn} {nx : Nat} {K : SV → Heap → Asn → Nat → Prop} (xs : List Int) (hf : ∀ ar w, (callFunc f ar).run cx.P w = .ok (.enter f ar) w)
    (hc : ∀ ρ w', Abs cx.B ρ nx H S w' → Calls cx.P f (SV.rfs ρ args).toArray w' (ClonePost w' xs))
    (h : ∀ u : IntsV, u.xs = xs → u.sane → K (.c u.val) H (S.and ((intsT u).past cx.B.w0.heap.size)) nx) : callK cx f args H S nx K :=
  call_past hf IntsV.val intsT (fun u => u.xs = xs ∧ u.sane) hc (fun u hu => h u hu.1 hu.2)
theorem desk_abs {B : Base} {ρ : Nat → SX.Loc} {nx : Nat} {H : Heap} {S : Asn} {w : World} {d i j : Nat} {kept : List NodeV} {st : List Nat} {out : Int} {T T1 T2 : TypeId} (hw : Abs B ρ nx H S w) (hd : (d, Ent.box [.os i kept.length, .c (.int .i64 out), .os j st.length] T) ∈ H) (hi : (i, Ent.rows (nodeRows kept) 9 T1) ∈ H) (hj : (j, Ent.rows (ints (stI st)) 1 T2) ∈ H) :
    ∃ b, (SV.lp d 0 0 0).rf ρ = .pointer (some ⟨b, 0, none⟩) ∧ DeskAt w b (ρ i).base (ρ i).cap kept (ρ j).base (ρ j).cap (stI st) := by
  have hn := rows_of_abs hw hi
  have hs := rows_of_abs hw hj
  obtain ⟨R, φ, hwR⟩ := hw
  obtain ⟨b, h1, h2, h3⟩ := hwR.ent _ hd
  simp only at h1
  refine ⟨b, by simp [SV.rf, h1, add_none], ?_, ?_, hn, hs⟩
  · simp [World.cell?, h3, SV.rfs, SV.rf]
  · simp [World.cell?, h3, SV.rfs, SV.rf, stI]
theorem desk_call {P : Program} {f : FuncId} {v u : Value} {w : World} {Q : Ending → World → Prop} {b : Nat} (e : v = .pointer (some ⟨b, 0, none⟩)) (h : Calls P f #[.pointer (some ⟨b, 0, none⟩), u] w Q) : Calls P f #[v, u] w Q := e ▸ h
theorem box_abs {B : Base} {ρ : Nat → SX.Loc} {nx : Nat} {H : Heap} {S : Asn} {w : World} {d : Nat} {n : NodeV} {T : TypeId} (hw : Abs B ρ nx H S w) (hd : (d, Ent.box (cs n.cells) T) ∈ H) : ∃ c, (SV.lp d 0 0 0).rf ρ = .pointer (some ⟨c, 0, none⟩) ∧ RowsI w (some ⟨c, 0, none⟩) 9 (nodeRows [n]) := by
  obtain ⟨R, φ, hwR⟩ := hw
  obtain ⟨b, h1, h2, h3⟩ := hwR.ent _ hd
  simp only at h1
  rw [rfs_cs] at h3
  refine ⟨b, by simp [SV.rf, h1, add_none], .inr ⟨_, rfl, fun i r hi j v hj => ?_⟩⟩
  cases i with
  | zero =>
    obtain rfl : n.cells = r := by simpa [nodeRows] using hi
    rw [add_none]
    simp [World.cell?, h3, hj]
  | succ i => simp [nodeRows] at hi
theorem index_call {P : Program} {f g : FuncId} {u v : Value} {w : World} {Q : Ending → World → Prop} {c : Nat} (e : v = .pointer (some ⟨c, 0, none⟩)) (h : Calls P f #[u, .func (.func g) #[] #[.pointer (some ⟨c, 0, none⟩)]] w Q) : Calls P f #[u, .func (.func g) #[] #[v]] w Q := e ▸ h
theorem idxI_some {n : NodeP} {row : List NodeP} {k : Nat} (h : idxP n row 0 = some k) : idxI n row = k := by unfold idxI; rw [h]
theorem idxI_none {n : NodeP} {row : List NodeP} (h : idxP n row 0 = none) : idxI n row = -1 := by unfold idxI; rw [h]
theorem stI_snoc (st : List Nat) (k : Nat) : List.take st.length (ints (stI st)) ++ [[.int .i64 (k : Int)]] = ints (stI (st ++ [k])) := by
  rw [List.take_of_length_le (by rw [ints_length]; simp [stI])]
  simp [stI, ints]
theorem stI_length (st : List Nat) : (ints (stI st)).length = st.length := by rw [ints_length]; simp [stI]
set_option maxRecDepth 20000 in
set_option maxHeartbeats 4000000 in
theorem lay_found {w : World} {n0 : Nat} {e6 e5 e1 e0 : Ent} {S : Asn} {K : SV → Heap → Asn → Nat → Prop} {kept : List NodeV} {st : List Nat} {m : NodeV} (hmo : ∀ R w', S.holds R w' → m.ok w') (hko : ∀ R w', S.holds R w' → ∀ k ∈ kept, k.ok w') (h1 : kept.length ≤ 24) (h2 : st.length ≤ 24) {k : Nat} (hf : findP (kept.map NodeV.pl) m.pl = some k)
    (h : ∀ e8 e7, K (.tup []) [(9, .rows (ints (stI (st ++ [k]))) 1 3), (8, e8), (7, e7), (6, e6), (5, e5), (3, .rows (nodeRows kept) 9 38), (2, .box [.os 3 kept.length, .c (.int .i64 0), .os 9 (st ++ [k]).length] 81), (1, e1), (0, e0)] S 10) : callK ⟨Try.prog, ⟨w, []⟩, n0, tab⟩ 51 [.lp 2 0 0 0, .agg [.c (.int .i64 m.kind), .c (.int .i64 m.a), .c (.int .i64 m.b), .c m.shape.val, .c (.int .i64 m.lo), .c (.int .i64 m.hi), .c (.int .i64 m.size), .c m.data.val, .c m.bias.val]] [(6, e6), (5, e5), (4, .rows (ints (stI st)) 1 3), (3, .rows (nodeRows kept) 9 38), (2, .box [.os 3 kept.length, .c (.int .i64 0), .os 4 st.length] 81), (1, e1), (0, e0)] S 7 K := by
  obtain ⟨hk1, hk⟩ := findP_some hf
  have hkl : k < kept.length := by have := (List.getElem?_eq_some_iff.1 hk).1; rwa [List.length_map] at this
  have hk1' : m.kind ≠ 1 := hk1
  have hi : idxP m.pl (kept.map NodeV.pl) 0 = some k := by unfold findP at hf; rw [if_neg hk1] at hf; exact hf
  refine call_inline tabOk Try.func51 rfl rfl rfl Try.call51 rfl (by show 2 ≤ _; decide) ?_
  
  (repeat' ((conv => whnf) <;> first | (show callK _ 81 _ _ _ _ _; (refine call_pure (f := 81) Try.call81 (.int .i64 k) (fun ρ w' hw => by obtain ⟨c, e, hc⟩ := box_abs (n := m) (d := 7) hw (by repeat (first | exact List.mem_cons_self | apply List.mem_cons_of_mem)); have := indexNode_any w' m c (holds_of_abs hw fun R h => hmo R w' h) hc (ρ 3).base (ρ 3).cap kept (rows_of_abs hw (by repeat (first | exact List.mem_cons_self | apply List.mem_cons_of_mem))) (holds_of_abs hw fun R h => hko R w' h) (by omega); rw [idxI_some hi] at this; exact index_call e this) ?_)) | (show ownK _ ((_, .rows (List.take st.length _ ++ _) _ _) :: _) _ _ _; refine own_eq (ys := ints (stI (st ++ [k]))) (m := (st ++ [k]).length) ?_ (stI_snoc st k) (by show st.length + 1 = _; rw [List.length_append]; rfl)) | (show leK _ _ _; (refine le_of (by rw [stI_length]; exact Nat.le_refl _) ?_)) | (show roomK _ _ _; (refine room_of (by show (st.length + 1) * 8 ≤ 140737488355328; omega) ?_)) | (show drawK _ 6 _ _ _ _ _ _; refine draw_tree tabOk mixed [10, 12, 14] _ dtNN0 (by kernel_rfl) (by kernel_rfl) (by kernel_rfl) (List.Sublist.refl _) ?_) | (show drawK _ 7 _ _ _ _ _ _; refine draw_tree tabOk mixed [12] _ dtNN1 (by kernel_rfl) (by kernel_rfl) (by kernel_rfl) (List.Sublist.refl _) ?_) | (show Wp _ _ _ _ _ _ _; refine Wp.go tabOk rfl ?_) | (show @cmpK _ _ _; (first | refine cmpY ?_ | refine cmpN ?_ | (refine cmp_both ?_ ?_ <;> intro _))) | (show wrapK _ _ _; refine wrapA ?_) | (show leK _ _ _; refine leA ?_) | (show roomK _ _ _; refine roomA ?_) | (show ltK _ _ _; refine ltA ?_) | (show _ ∧ _; refine ⟨?_, ?_⟩) | (show keepK _ _ _ _ _; refine keepA ?_) | refine own_keep ?_ | refine ap_old ?_))
  all_goals (conv => whnf)
  all_goals exact done_of (h _ _)
def cloneV (m : NodeV) (u1 u2 u3 : IntsV) : NodeV := ⟨m.kind, m.a, m.b, u1, m.lo, m.hi, m.size, u2, u3⟩
theorem nodes_snoc (l : List NodeV) (n : NodeV) : List.take l.length (nodeRows l) ++ [n.cells] = nodeRows (l ++ [n]) := by
  rw [List.take_of_length_le (by rw [nodeRows_length]; exact Nat.le_refl _)]
  simp [nodeRows]
set_option maxRecDepth 20000 in
set_option maxHeartbeats 4000000 in
theorem lay_new {w : World} {n0 : Nat} {e6 e5 e1 e0 : Ent} {S : Asn} {K : SV → Heap → Asn → Nat → Prop} {kept : List NodeV} {st : List Nat} {m : NodeV} (hmo : ∀ R w', S.holds R w' → m.ok w') (hko : ∀ R w', S.holds R w' → ∀ k ∈ kept, k.ok w') (h1 : kept.length ≤ 24) (h2 : st.length ≤ 24) (hf : findP (kept.map NodeV.pl) m.pl = none)
    (h : ∀ e10 e8 e7 u1 u2 u3, u1.xs = m.shape.xs → u1.sane → u2.xs = m.data.xs → u2.sane → u3.xs = m.bias.xs → u3.sane → K (.tup []) [(11, .rows (ints (stI (st ++ [kept.length]))) 1 3), (10, e10), (9, .rows (nodeRows (kept ++ [cloneV m u1 u2 u3])) 9 38), (8, e8), (7, e7), (6, e6), (5, e5), (2, .box [.os 9 (kept ++ [cloneV m u1 u2 u3]).length, .c (.int .i64 0), .os 11 (st ++ [kept.length]).length] 81), (1, e1), (0, e0)] (((S.and ((intsT u1).past w.heap.size)).and ((intsT u2).past w.heap.size)).and ((intsT u3).past w.heap.size)) 12) : callK ⟨Try.prog, ⟨w, []⟩, n0, tab⟩ 51 [.lp 2 0 0 0, .agg [.c (.int .i64 m.kind), .c (.int .i64 m.a), .c (.int .i64 m.b), .c m.shape.val, .c (.int .i64 m.lo), .c (.int .i64 m.hi), .c (.int .i64 m.size), .c m.data.val, .c m.bias.val]] [(6, e6), (5, e5), (4, .rows (ints (stI st)) 1 3), (3, .rows (nodeRows kept) 9 38), (2, .box [.os 3 kept.length, .c (.int .i64 0), .os 4 st.length] 81), (1, e1), (0, e0)] S 7 K := by
  have hi : m.kind ≠ 1 → idxP m.pl (kept.map NodeV.pl) 0 = none := fun hk1 => by unfold findP at hf; rw [if_neg (show ¬ m.pl.kind = 1 from hk1)] at hf; exact hf
  by_cases hk1 : m.kind = 1
  all_goals
    refine call_inline tabOk Try.func51 rfl rfl rfl Try.call51 rfl (by show 2 ≤ _; decide) ?_
    
    (repeat' ((conv => whnf) <;> first | (show callK _ 81 _ _ _ _ _; (refine call_pure (f := 81) Try.call81 (.int .i64 (-1)) (fun ρ w' hw => by obtain ⟨c, e, hc⟩ := box_abs (n := m) (d := 7) hw (by repeat (first | exact List.mem_cons_self | apply List.mem_cons_of_mem)); have := indexNode_any w' m c (holds_of_abs hw fun R h => hmo R w' h) hc (ρ 3).base (ρ 3).cap kept (rows_of_abs hw (by repeat (first | exact List.mem_cons_self | apply List.mem_cons_of_mem))) (holds_of_abs hw fun R h => hko R w' h) (by omega); rw [idxI_none (hi hk1)] at this; exact index_call e this) ?_)) | (show drawK _ 6 _ _ _ _ _ _; refine draw_tree tabOk mixed [10, 11, 12, 13, 14] _ dtNN0 (by kernel_rfl) (by kernel_rfl) (by kernel_rfl) (List.Sublist.refl _) ?_) | (show keepK _ _ _ _ _; (first | refine keep_of (List.Sublist.refl _) (fun _ _ h => h.1) ?_ | refine keep_of (List.Sublist.refl _) (fun _ _ h => h.1.1) ?_ | refine keep_of (List.Sublist.refl _) (fun _ _ h => h.1.1.1) ?_ | refine keep_of (List.Sublist.refl _) (fun _ _ h => h) ?_)) | (show callK _ 48 [.c m.shape.val] _ _ _ _; refine call_cloneT m.shape.xs Try.call48 (fun ρ w' hw => cloneT_any w' m.shape (holds_of_abs hw fun R h => (hmo R w' h).shape)) (fun u1 hu1 hs1 => ?_)) | (show callK _ 48 [.c m.data.val] _ _ _ _; refine call_cloneT m.data.xs Try.call48 (fun ρ w' hw => cloneT_any w' m.data (holds_of_abs hw fun R h => (hmo R w' h.1).data)) (fun u2 hu2 hs2 => ?_)) | (show callK _ 48 [.c m.bias.val] _ _ _ _; refine call_cloneT m.bias.xs Try.call48 (fun ρ w' hw => cloneT_any w' m.bias (holds_of_abs hw fun R h => (hmo R w' h.1.1).bias)) (fun u3 hu3 hs3 => ?_)) | (show drawK _ 7 _ _ _ _ _ _; (fail)) | (show Wp _ _ _ _ _ _ _; refine Wp.go tabOk rfl ?_) | (show @cmpK _ _ _; (first | refine cmpY ?_ | refine cmpN ?_ | (refine cmp_both ?_ ?_ <;> intro _))) | (show wrapK _ _ _; refine wrapA ?_) | (show leK _ _ _; refine leA ?_) | (show roomK _ _ _; refine roomA ?_) | (show ltK _ _ _; refine ltA ?_) | (show _ ∧ _; refine ⟨?_, ?_⟩) | (show keepK _ _ _ _ _; refine keepA ?_) | refine own_keep ?_ | refine ap_old ?_))

  all_goals (conv => whnf)
  all_goals refine draw_tree tabOk mixed [12] _ dtNN1 (by kernel_rfl) (by kernel_rfl) (by kernel_rfl) (List.Sublist.cons_cons _ (List.Sublist.cons_cons _ (List.Sublist.cons_cons _ (List.Sublist.cons_cons _ (List.Sublist.cons _ (List.Sublist.refl _)))))) ?_
  all_goals
    (repeat' ((conv => whnf) <;> first | (show ownK _ ((_, .rows (List.take kept.length _ ++ _) _ _) :: _) _ _ _; refine own_eq (ys := nodeRows (kept ++ [cloneV m u1 u2 u3])) (m := (kept ++ [cloneV m u1 u2 u3]).length) ?_ (nodes_snoc kept (cloneV m u1 u2 u3)) (by show kept.length + 1 = _; rw [List.length_append]; rfl)) | (show ownK _ ((_, .rows (List.take st.length _ ++ _) _ _) :: _) _ _ _; refine own_eq (ys := ints (stI (st ++ [kept.length]))) (m := (st ++ [kept.length]).length) ?_ (stI_snoc st kept.length) (by show st.length + 1 = _; rw [List.length_append]; rfl)) | (show leK _ _ _; (first | refine le_of (by rw [nodeRows_length]; exact Nat.le_refl _) ?_ | refine le_of (by rw [stI_length]; exact Nat.le_refl _) ?_)) | (show roomK _ _ _; (first | refine room_of (by show (kept.length + 1) * 120 ≤ 140737488355328; omega) ?_ | refine room_of (by show (st.length + 1) * 8 ≤ 140737488355328; omega) ?_)) | (show keepK _ _ _ _ _; (first | refine keep_of (List.Sublist.cons _ (List.Sublist.cons _ (List.Sublist.refl _))) (fun _ _ h => h) ?_ | refine keep_of (List.Sublist.cons _ (List.Sublist.cons_cons _ (List.Sublist.cons_cons _ (List.Sublist.cons_cons _ (List.Sublist.cons_cons _ (List.Sublist.cons _ (List.Sublist.refl _))))))) (fun _ _ h => h) ?_)) | (show drawK _ 6 _ _ _ _ _ _; refine draw_tree tabOk mixed [10, 12, 14] _ dtNN0 (by kernel_rfl) (by kernel_rfl) (by kernel_rfl) (List.Sublist.refl _) ?_) | (show drawK _ 7 _ _ _ _ _ _; refine draw_tree tabOk mixed [12] _ dtNN1 (by kernel_rfl) (by kernel_rfl) (by kernel_rfl) (List.Sublist.refl _) ?_) | (show Wp _ _ _ _ _ _ _; refine Wp.go tabOk rfl ?_) | (show @cmpK _ _ _; (first | refine cmpY ?_ | refine cmpN ?_ | (refine cmp_both ?_ ?_ <;> intro _))) | (show wrapK _ _ _; refine wrapA ?_) | (show leK _ _ _; refine leA ?_) | (show roomK _ _ _; refine roomA ?_) | (show ltK _ _ _; refine ltA ?_) | (show _ ∧ _; refine ⟨?_, ?_⟩) | (show keepK _ _ _ _ _; refine keepA ?_) | refine own_keep ?_ | refine ap_old ?_))
  all_goals (conv => whnf)
  all_goals exact done_of (h _ _ _ u1 u2 u3 hu1 hs1 hu2 hs2 hu3 hs3)
end Go.Proofs.Ytdmkdogakbipbaa

/- NO -/
namespace Go.Proofs.Ytdmkdogakbipbaa
abbrev dtNO1 : Go.SX.DT := (.take 0 (.take 1 (.take 2 (.take 3 (.take 4 (.take 5 (.take 6 (.take 7 (.one 8 (.one 9 (.one 10 (.one 11 (.one 12 (.take 13 (.one 14 (.done))))))))))))))))
open Go.SX Go.RowKit
theorem cloneV_pl {m : NodeV} {u1 u2 u3 : IntsV} (h1 : u1.xs = m.shape.xs) (h2 : u2.xs = m.data.xs) (h3 : u3.xs = m.bias.xs) : (cloneV m u1 u2 u3).pl = m.pl := by
  show NodeP.mk _ _ _ u1.xs _ _ _ u2.xs u3.xs = _
  rw [h1, h2, h3]; rfl
theorem cloneV_kept {l : List NodeV} {m : NodeV} {u1 u2 u3 : IntsV} (hl : KeptOk l) (hm : m.saneN) (hs : m.small) (h1 : u1.sane) (e2 : u2.xs = m.data.xs) (h2 : u2.sane) (e3 : u3.xs = m.bias.xs) (h3 : u3.sane) : KeptOk (l ++ [cloneV m u1 u2 u3]) := fun n hn => by
  rcases List.mem_append.1 hn with hn | hn
  · exact hl n hn
  · rw [List.mem_singleton.1 hn]
    exact ⟨⟨h1, h2, h3, hm.kindFits, hm.aFits, hm.bFits, hm.loFits, hm.hiFits, hm.sizeFits⟩, by show u2.xs.length ≤ 5000; rw [e2]; exact hs.data, by show u3.xs.length ≤ 5000; rw [e3]; exact hs.bias⟩
theorem lay_row {kept : List NodeV} {m : NodeV} {u1 u2 u3 : IntsV} (h1 : u1.xs = m.shape.xs) (h2 : u2.xs = m.data.xs) (h3 : u3.xs = m.bias.xs) : (kept ++ [cloneV m u1 u2 u3]).map NodeV.pl = kept.map NodeV.pl ++ [m.pl] := by
  rw [List.map_append, List.map_cons, List.map_nil, cloneV_pl h1 h2 h3]
theorem constN_sane {u x : IntsV} (hu : u.sane) (hx : x.sane) : (constN u x).saneN := ⟨hu, hx, ⟨fun y hy => by simp [constN, nilI] at hy, Nat.le_refl _, Nat.zero_le _⟩, i64_2, i64_0, i64_0, i64_0, i64_0, i64_0⟩
theorem constN_ok {u x : IntsV} {w : World} (hu : u.ok w) (hx : x.ok w) : (constN u x).ok w := ⟨hu, hx, nil_ok w, i64_2, i64_0, i64_0, i64_0, i64_0, i64_0⟩
def foldD (x : IntsV × IntsV) : Asn := (intsA x.1).and (intsA x.2)
theorem foldD_ok {u x : IntsV} {R : Nat → Prop} {w : World} {N : Nat} (hu : u.sane) (hx : x.sane) (h : ((foldD (u, x)).past N).holds R w) : (constN u x).ok w := constN_ok (intsA_ok hu ((intsA u).mono h.1 fun b hb => hb.1)) (intsA_ok hx ((intsA x).mono h.2 fun b hb => hb.1))
theorem constN_pl {u x : IntsV} {s d : List Int} (h1 : u.xs = s) (h2 : x.xs = d) : (constN u x).pl = ⟨2, 0, 0, s, 0, 0, 0, d, []⟩ := by subst h1 h2; rfl
theorem setM_nil : (fun _ => none) = setM (fun _ => false) := by funext j; unfold setM; rw [if_neg (by simp)]
theorem mapNew_set {H : Heap} {S : Asn} {nx : Nat} {K : SV → Heap → Asn → Nat → Prop} (h : ∀ r, K (.c (.map (some r))) ((nx, .ext (mapO r (setM fun _ => false))) :: H) S (nx + 1)) : mapNewK H S nx K := ⟨fun r => by have := h r; rwa [← setM_nil] at this⟩
theorem desk_call3 {P : Program} {f : FuncId} {v u x : Value} {w : World} {Q : Ending → World → Prop} {b : Nat} (e : v = .pointer (some ⟨b, 0, none⟩)) (h : Calls P f #[.pointer (some ⟨b, 0, none⟩), u, x] w Q) : Calls P f #[v, u, x] w Q := e ▸ h
def gridN (n : Nat) (p : List Nat) : List Nat := p ++ List.replicate (n - p.length) 0
theorem gridN_length {n : Nat} {p : List Nat} (h : p.length ≤ n) : (gridN n p).length = n := by unfold gridN; simp; omega
theorem gridN_stI (n : Nat) (p : List Nat) : stI (gridN n p) = gridI n (stI p) := by unfold gridN stI gridI; simp
theorem gridN_store {n i x : Nat} {p : List Nat} {K : List (List Value) → Prop} (hl : p.length = i) (hi : i < n) (h : K (ints (stI (gridN n (p ++ [x]))))) : rowStoreK (ints (stI (gridN n p))) i 0 [.int .i64 (x : Int)] K := by
  rw [gridN_stI] at h ⊢
  refine gridI_store (by unfold stI; rw [List.length_map]; exact hl) hi ?_
  have : stI (p ++ [x]) = stI p ++ [(x : Int)] := by unfold stI; simp
  rw [← this]; exact h
theorem gridN_skip {n : Nat} {p : List Nat} (h : p.length < n) : gridN n (p ++ [0]) = gridN n p := by
  unfold gridN
  obtain ⟨k, hk⟩ : ∃ k, n - p.length = k + 1 := ⟨n - p.length - 1, by omega⟩
  rw [hk, List.length_append, List.length_singleton, show n - (p.length + 1) = k by omega, List.append_assoc, List.replicate_succ]
  rfl
theorem gridN_getD {n k : Nat} {p : List Nat} (h : k < p.length) : (gridN n p).getD k 0 = p.getD k 0 := by
  unfold gridN; rw [List.getD_eq_getElem?_getD, List.getD_eq_getElem?_getD, List.getElem?_append_left h]
theorem gridN_moved {n : Nat} {p : List Nat} {x : NodeP} (h : AheadP x p.length) : movedP (gridN n p) x = movedP p x := by
  unfold movedP
  by_cases h12 : x.kind = 1 ∨ x.kind = 2
  · rw [if_pos h12, if_pos h12]
  · rw [if_neg h12, if_neg h12, gridN_getD (h.a1 (by omega) (by omega))]
    by_cases h6 : x.kind = 6
    · rw [if_pos h6, if_pos h6, gridN_getD (h.b1 h6)]
    · rw [if_neg h6, if_neg h6]
theorem gridN_start (n : Nat) : ints (stI (gridN n [])) = List.replicate n [Value.int .i64 0] := by
  unfold gridN stI ints; simp
theorem AheadP.mono {p : NodeP} {k m : Nat} (h : AheadP p k) (hm : k ≤ m) : AheadP p m := ⟨h.a0, fun h1 h2 => Nat.lt_of_lt_of_le (h.a1 h1 h2) hm, h.a2, h.b0, fun h6 => Nat.lt_of_lt_of_le (h.b1 h6) hm, h.b2, h.kind⟩
theorem moved_snoc {p : List Nat} {y : Nat} {x : NodeP} (h : AheadP x p.length) : movedP (p ++ [y]) x = movedP p x := by
  have hg : ∀ k, k < p.length → (p ++ [y]).getD k 0 = p.getD k 0 := fun k hk => by rw [List.getD_eq_getElem?_getD, List.getD_eq_getElem?_getD, List.getElem?_append_left hk]
  unfold movedP
  by_cases h12 : x.kind = 1 ∨ x.kind = 2
  · rw [if_pos h12, if_pos h12]
  · rw [if_neg h12, if_neg h12, hg _ (h.a1 (by omega) (by omega))]
    by_cases h6 : x.kind = 6
    · rw [if_pos h6, if_pos h6, hg _ (h.b1 h6)]
    · rw [if_neg h6, if_neg h6]
theorem desk_abs2 {B : Base} {ρ : Nat → SX.Loc} {nx : Nat} {H : Heap} {S : Asn} {w : World} {d i j m : Nat} {kept : List NodeV} {st : List Nat} {out : Int} {T T1 T2 : TypeId} (hw : Abs B ρ nx H S w) (hm : st.length = m) (hd : (d, Ent.box [.os i kept.length, .c (.int .i64 out), .os j m] T) ∈ H) (hi : (i, Ent.rows (nodeRows kept) 9 T1) ∈ H) (hj : (j, Ent.rows (ints (stI st)) 1 T2) ∈ H) :
    ∃ b, (SV.lp d 0 0 0).rf ρ = .pointer (some ⟨b, 0, none⟩) ∧ DeskAt w b (ρ i).base (ρ i).cap kept (ρ j).base (ρ j).cap (stI st) := by subst hm; exact desk_abs hw hd hi hj
theorem cutL_cons {need : Nat → Bool} {n : NodeP} {r : List NodeP} {i : Nat} {x : List NodeP × List Nat} : cutL need (n :: r) i x = cutL need r (i + 1) (if need i = true ∨ n.kind = 1 then (x.1 ++ [movedP x.2 n], x.2 ++ [x.1.length]) else (x.1, x.2 ++ [0])) := rfl
theorem movedV_sane {st : List Nat} {n : NodeV} (h : n.saneN) (hs : ∀ k, st.getD k 0 ≤ 1000000) : (movedV st n).saneN := by
  obtain ⟨_, _, ea, ea2, eb, eb2⟩ := moved_eq st n.pl
  have ha : i64 (movedP st n.pl).a := by
    by_cases h12 : n.pl.kind = 1 ∨ n.pl.kind = 2
    · rw [ea2 h12]; exact h.aFits
    · rw [ea (by omega) (by omega)]
      have := hs n.pl.a.toNat
      unfold i64; omega
  have hb : i64 (movedP st n.pl).b := by
    by_cases h6 : n.pl.kind = 6
    · rw [eb h6]
      have := hs n.pl.b.toNat
      unfold i64; omega
    · rw [eb2 h6]; exact h.bFits
  exact ⟨h.shape, h.data, h.bias, h.kindFits, ha, hb, h.loFits, h.hiFits, h.sizeFits⟩
theorem snoc_le {p : List Nat} {y m : Nat} (h : ∀ k, p.getD k 0 ≤ m) (hy : y ≤ m) : ∀ k, (p ++ [y]).getD k 0 ≤ m := fun k => by
  rcases Nat.lt_or_ge k p.length with hk | hk
  · rw [List.getD_eq_getElem?_getD, List.getElem?_append_left hk, ← List.getD_eq_getElem?_getD]; exact h k
  · rw [List.getD_eq_getElem?_getD, List.getElem?_append_right hk]
    cases k - p.length with
    | zero => exact hy
    | succ j => exact Nat.zero_le _
theorem gridN_le {n m : Nat} {p : List Nat} (h : ∀ k, p.getD k 0 ≤ m) : ∀ k, (gridN n p).getD k 0 ≤ m := fun k => by
  rcases Nat.lt_or_ge k p.length with hk | hk
  · rw [gridN_getD hk]; exact h k
  · unfold gridN
    rw [List.getD_eq_getElem?_getD, List.getElem?_append_right hk, List.getElem?_replicate]
    split <;> exact Nat.zero_le _
theorem kept_snoc {l : List NodeV} {n : NodeV} (hl : KeptOk l) (h1 : n.saneN) (h2 : n.small) : KeptOk (l ++ [n]) := fun m hm => by
  rcases List.mem_append.1 hm with hm | hm
  · exact hl m hm
  · rw [List.mem_singleton.1 hm]; exact ⟨h1, h2⟩
theorem gridN_here {n : Nat} {p : List Nat} {i : Nat} {T : TypeId} {H : Heap} (hp : p.length < n) (h : (i, Ent.rows (ints (stI (gridN n p))) 1 T) ∈ H) : (i, Ent.rows (ints (stI (gridN n (p ++ [0])))) 1 T) ∈ H := by rw [gridN_skip hp]; exact h
/-- nodes whose numbers stand where others' do -/
def From (kept acc : List NodeV) : Prop := ∀ m ∈ acc, ∃ k ∈ kept, m.shape = k.shape ∧ m.data = k.data ∧ m.bias = k.bias
theorem from_snoc {kept acc : List NodeV} {x : NodeV} {st : List Nat} (h : From kept acc) (hx : x ∈ kept) : From kept (acc ++ [movedV st x]) := fun m hm => by
  rcases List.mem_append.1 hm with hm | hm
  · exact h m hm
  · rw [List.mem_singleton.1 hm]; exact ⟨x, hx, rfl, rfl, rfl⟩
def TidyPost (w : World) (r : Int) (x : List NodeP × Nat) (e : Ending) (w' : World) : Prop :=
  (r ≠ 0 ∧ e = .returned (.tuple #[.agg #[.slice none 0 0, .int .i64 0], .int .i64 r]) ∧ Ext w w') ∨
  (r = 0 ∧ ∃ (l : List NodeV) (base : Option Addr) (cap : Nat), l.map NodeV.pl = x.1 ∧ KeptOk l ∧ l.length ≤ cap ∧ e = .returned (.tuple #[.agg #[.slice base l.length cap, .int .i64 x.2], .int .i64 0]) ∧ Ext w w' ∧
    ∃ F G : Nat → Prop, (∀ b, F b → w.heap.size ≤ b ∧ b < w'.heap.size) ∧ (∀ b, G b → w.heap.size ≤ b ∧ b < w'.heap.size) ∧ (∀ b, F b → ¬ G b) ∧ (∀ n ∈ l, (nodeT n).holds F w') ∧ (rowsA base 9 (nodeRows l)).holds G w')
theorem movedV_ok {w : World} {n : NodeV} {st : List Nat} {k : Nat} (h : n.ok w) (ha : AheadP (movedV st n).pl k) (hk : k ≤ 1000000) : (movedV st n).ok w := by
  have a0 := ha.a0
  have b0 := ha.b0
  have a1 := ha.a1
  have a2 := ha.a2
  have b1 := ha.b1
  have b2 := ha.b2
  refine atV_ok h ?_ ?_
  · show i64 (movedV st n).pl.a
    unfold i64
    by_cases h12 : (movedV st n).pl.kind = 1 ∨ (movedV st n).pl.kind = 2
    · have := a2 h12; omega
    · have := a1 (by omega) (by omega); omega
  · show i64 (movedV st n).pl.b
    unfold i64
    by_cases h6 : (movedV st n).pl.kind = 6
    · have := b1 h6; omega
    · have := b2 h6; omega
theorem call_fold {cx : Cx} {f : FuncId} {args : List SV} {H : Heap} {S : Asn} {nx : Nat} {K : SV → Heap → Asn → Nat → Prop} (s d : List Int) (hf : ∀ ar w, (callFunc f ar).run cx.P w = .ok (.enter f ar) w)
    (hc : ∀ ρ w', Abs cx.B ρ nx H S w' → Calls cx.P f (SV.rfs ρ args).toArray w' (FoldPost w' s d))
    (h : ∀ u x : IntsV, u.xs = s → u.sane → x.xs = d → x.sane → K (.c (constN u x).valA) H (S.and ((foldD (u, x)).past cx.B.w0.heap.size)) nx) : callK cx f args H S nx K :=
  call_past hf (fun x : IntsV × IntsV => (constN x.1 x.2).valA) foldD (fun x => x.1.xs = s ∧ x.1.sane ∧ x.2.xs = d ∧ x.2.sane) (fun ρ w' hw => (hc ρ w' hw).mono fun e w'' he => by
    obtain ⟨u, x, h1, h2, h3, h4, h5, h6, h7, h8⟩ := he
    exact ⟨(u, x), ⟨h1, h2, h3, h4⟩, h5, h6, h7, h8⟩) (fun x hx => h x.1 x.2 hx.1 hx.2.1 hx.2.2.1 hx.2.2.2)
theorem tidy_ends {B : Base} {H : Heap} {S : Asn} {nx i : Nat} {w : World} {acc kept : List NodeV} {o : Nat} {r : Int} {x : List NodeP × Nat} {T : TypeId} (hw0 : B.w0 = w) (hb : ∀ R w', S.holds R w' → (baseA w).holds R w') (hkA : ∀ R w', S.holds R w' → (keptA w.heap.size kept).holds R w') (hi : (i, Ent.rows (nodeRows acc) 9 T) ∈ H) (hfr : From kept acc) (hao : KeptOk acc) (hr : r = 0) (hx : x = (acc.map NodeV.pl, o)) :
    finK B (.tup [.agg [.os i acc.length, .c (.int .i64 o)], .c (.int .i64 0)]) H S nx (TidyPost w r x) := by
  subst hw0 hr hx
  refine fin_of fun ρ w' hw => .inr ⟨rfl, ?_⟩
  have hext := ext_of_abs hw hb
  obtain ⟨R, φ, hwR⟩ := hw
  have hbase := hb R w' hwR.asn
  have hkept := hkA R w' hwR.asn
  obtain ⟨h1, h2, h3⟩ := hwR.ent _ hi
  simp only at h2 h3
  rw [nodeRows_length] at h2
  refine ⟨acc, (ρ i).base, (ρ i).cap, rfl, hao, h2, rfl, hext, fun b => R b ∧ B.w0.heap.size ≤ b, φ i, fun b hb => ⟨hb.2, hwR.ro b hb.1⟩, fun b hb => ⟨?_, Ent.size (hwR.ent _ hi) hb⟩, fun b hb hb' => hwR.apart _ hi b hb' hb.1, fun n hn => ?_, h1, ?_⟩
  · rcases Nat.lt_or_ge b B.w0.heap.size with hl | hl
    · exact absurd (hbase b hl).1 (hwR.apart _ hi b hb)
    · exact hl
  · obtain ⟨k, hk, e1, e2, e3⟩ := hfr n hn
    have := hkept k hk
    unfold nodeT at this ⊢
    rw [e1, e2, e3]
    exact this
  · rcases h3 with ⟨g1, g2, _⟩ | ⟨b, off, c, g1, g2, g3, g4, g5⟩
    · left
      have : acc.length = 0 := by omega
      have := List.eq_nil_of_length_eq_zero this
      subst this; rfl
    · refine .inr ⟨b, off, g1, (g2 b).2 rfl, fun m r hm j v hj => ?_⟩
      have := g5 m r hm j v hj
      rw [← Nat.add_assoc]
      simpa [World.cell?, g3] using this
set_option maxRecDepth 20000 in
set_option maxHeartbeats 4000000 in
theorem tidy_any (w : World) (g : GraphV) (hg : g.ok w) : Calls Try.prog 22 #[g.val] w (TidyPost w (spansH g).1 (tidyP (g.l.map NodeV.pl) (check g).2 g.out.toNat)) := by
  refine calls_of tab tabOk Try.func22 rfl rfl rfl [] (fun _ => ⟨none, 0⟩) [.agg [.c (.slice g.base g.l.length g.cap), .c (.int .i64 g.out)]] [] (baseA w) 0 rfl rfl (by show 1 ≤ _; decide) (abs_base w) ?_
  (repeat' ((conv => whnf) <;> first | (show drawK _ 23 _ _ _ _ _ _; refine draw_tree tabOk mixed [12] _ dtIF0 (by kernel_rfl) (by kernel_rfl) (by kernel_rfl) (List.Sublist.refl _) ?_) | (show drawK _ 24 _ _ _ _ _ _; refine draw_tree tabOk mixed [14] _ dtNO1 (by kernel_rfl) (by kernel_rfl) (by kernel_rfl) (List.Sublist.refl _) ?_) | (show drawK _ _ _ _ _ _ _ _; refine draw_quiet tabOk mixed (by kernel_rfl) ?_) | (show Wp _ _ _ _ _ _ _; refine Wp.go tabOk rfl ?_) | (show @cmpK _ _ _; (first | refine cmpY ?_ | refine cmpN ?_ | (refine cmp_both ?_ ?_ <;> intro _))) | (show wrapK _ _ _; refine wrapA ?_) | (show leK _ _ _; refine leA ?_) | (show roomK _ _ _; refine roomA ?_) | (show ltK _ _ _; refine ltA ?_) | (show _ ∧ _; refine ⟨?_, ?_⟩) | (show keepK _ _ _ _ _; refine keepA ?_) | refine own_keep ?_ | refine ap_old ?_))
  refine call_spans (f := 25) (spansH g) Try.call25 (fun ρ w' hw => spans_all w' g (holds_of_abs hw fun R h => hg.later h)) (fun hne => ?_) (fun hsp qb qc => ?_)
  · (repeat' ((conv => whnf) <;> first | (show @cmpK _ _ _; refine cmp_yes hne ?_) | (show drawK _ 23 _ _ _ _ _ _; refine draw_tree tabOk mixed [12] _ dtIF0 (by kernel_rfl) (by kernel_rfl) (by kernel_rfl) (List.Sublist.refl _) ?_) | (show drawK _ 24 _ _ _ _ _ _; refine draw_tree tabOk mixed [14] _ dtNO1 (by kernel_rfl) (by kernel_rfl) (by kernel_rfl) (List.Sublist.refl _) ?_) | (show drawK _ _ _ _ _ _ _ _; refine draw_quiet tabOk mixed (by kernel_rfl) ?_) | (show Wp _ _ _ _ _ _ _; refine Wp.go tabOk rfl ?_) | (show @cmpK _ _ _; (first | refine cmpY ?_ | refine cmpN ?_ | (refine cmp_both ?_ ?_ <;> intro _))) | (show wrapK _ _ _; refine wrapA ?_) | (show leK _ _ _; refine leA ?_) | (show roomK _ _ _; refine roomA ?_) | (show ltK _ _ _; refine ltA ?_) | (show _ ∧ _; refine ⟨?_, ?_⟩) | (show keepK _ _ _ _ _; refine keepA ?_) | refine own_keep ?_ | refine ap_old ?_))
    conv => whnf
    exact fin_of fun ρ w' hw => .inl ⟨hne, rfl, ext_of_abs hw (fun _ _ h => h)⟩
  obtain ⟨hck, hsl, hsi⟩ := spansH_in hsp
  obtain ⟨hl1, hl24, hout, hcl, hin⟩ := check_in hck
  have hL := rowOk_graph hsp
  (repeat' ((conv => whnf) <;> first | (show drawK _ 23 _ _ _ _ _ _; refine draw_tree tabOk mixed [12] _ dtIF0 (by kernel_rfl) (by kernel_rfl) (by kernel_rfl) (List.Sublist.refl _) ?_) | (show drawK _ 24 _ _ _ _ _ _; refine draw_tree tabOk mixed [14] _ dtNO1 (by kernel_rfl) (by kernel_rfl) (by kernel_rfl) (List.Sublist.refl _) ?_) | (show drawK _ _ _ _ _ _ _ _; refine draw_quiet tabOk mixed (by kernel_rfl) ?_) | (show Wp _ _ _ _ _ _ _; refine Wp.go tabOk rfl ?_) | (show @cmpK _ _ _; (first | refine cmpY ?_ | refine cmpN ?_ | (refine cmp_both ?_ ?_ <;> intro _))) | (show wrapK _ _ _; refine wrapA ?_) | (show leK _ _ _; refine leA ?_) | (show roomK _ _ _; refine roomA ?_) | (show ltK _ _ _; refine ltA ?_) | (show _ ∧ _; refine ⟨?_, ?_⟩) | (show keepK _ _ _ _ _; refine keepA ?_) | refine own_keep ?_ | refine ap_old ?_))
  refine Wp.loop (σ := Nat × List NodeV × List Nat) 5 (fun ⟨i, kept, st⟩ => [(6, .lp 2 0 0 0), (1, .lp 0 0 0 0), (2, .lp 1 0 0 0), (28, .c (.slice g.base g.l.length g.cap)), (29, .c (.int .i64 g.l.length)), (30, .c (.int .i64 i))])
    (fun ⟨i, kept, st⟩ => [(4, .rows (ints (stI st)) 1 3), (3, .rows (nodeRows kept) 9 38), (2, .box [.os 3 kept.length, .c (.int .i64 0), .os 4 st.length] 81), (1, .box [.c (.slice none 0 0), .c (.int .i64 0)] 26), (0, .box [.c (.slice g.base g.l.length g.cap), .c (.int .i64 g.out)] 26)])
    (fun ⟨_, kept, _⟩ => (baseA w).and (keptA w.heap.size kept))
    (fun ⟨i, kept, st⟩ => i ≤ g.l.length ∧ KeptOk kept ∧ TidyAt (g.l.map NodeV.pl) (check g).2 (spansH g).2 i (kept.map NodeV.pl) st) (fun s => g.l.length - s.1) (0, [], []) [(3, none), (4, none)] (by decide) (fun s => ⟨rfl, rfl⟩)
    ⟨Nat.zero_le _, fun n hn => by simp at hn, tidyAt_start _ _ _⟩ ⟨rfl, ⟨rfl, rfl, rfl, rfl, rfl, rfl, trivial⟩, ⟨rfl, rfl, (by repeat (first | exact List.mem_cons_self | apply List.mem_cons_of_mem)), (by repeat (first | exact List.mem_cons_self | apply List.mem_cons_of_mem)), (by repeat (first | exact List.mem_cons_self | apply List.mem_cons_of_mem)), trivial⟩, fun R w' h => ⟨h.1, keptA_nil _ R w'⟩⟩ ?_
  rintro ⟨i, kept, st⟩ ⟨hi, hko, hT⟩
  by_cases hlt : i < g.l.length
  · obtain ⟨a, ha⟩ : ∃ a, g.base = some a := base_some (j := i) hg.rows (by rw [nodeRows_length]; omega)
    have hrow := nodeRows_get hlt
    have hnm := List.getElem_mem hlt
    have hnp : (g.l.map NodeV.pl)[i]? = some g.l[i].pl := by rw [List.getElem?_map, List.getElem?_eq_getElem hlt]; rfl
    generalize g.l[i] = n at *
    have hno := hg.each n hnm
    have hns := hg.small n hnm
    have hnah := hL.ahead hnp
    have hstl := hT.len
    have hkl := hT.few
    rw [List.length_map] at hkl
    obtain ⟨rsh, rsp, hR, hS⟩ := hT.ok
    have hnp' : (g.l.map NodeV.pl)[st.length]? = some n.pl := by rw [hstl]; exact hnp
    obtain ⟨hm, ht⟩ := moved_in hL hR hS hnp'
    have hspn := (hL.span _ _ hnp').2
    have hT' := hT.step hL hnp
    rw [← hstl] at hnah
    rw [hstl] at hm ht hspn
    have hpl : (movedV st n).pl = movedP st n.pl := movedV_pl st n
    rw [← hpl] at hm ht
    have hmah := aheadP_of hm.form
    rw [hR.lenS, List.length_map] at hmah
    have hmo : ∀ w', n.ok w' → (movedV st n).ok w' := fun w' h => movedV_ok h hmah (by omega)
    have hms : (movedV st n).small := ⟨hns.data, hns.bias⟩
    have hb1 : -1048576 ≤ (spanP (movedV st n).pl (gD (check g).2 i) rsh rsp).1 := by unfold tight at ht; omega
    have hb2 : (spanP (movedV st n).pl (gD (check g).2 i) rsh rsp).2 ≤ 1048576 := by unfold tight at ht; omega
    have hfold : foldP (gD (check g).2 i) (kept.map NodeV.pl) (movedP st n.pl) = foldP (gD (check g).2 i) (kept.map NodeV.pl) (movedV st n).pl := by rw [hpl]
    (repeat' ((conv => whnf) <;> first | (show idxK _ _ _ _ _; refine idx_of a i ha rfl hlt ?_) | (show roAggK _ _ _ _; (refine roAgg_row (fun R w' h => by rw [← ha]; exact rows_base h.1 hg.rows) _ hrow rfl ?_)) | (show drawK _ 23 _ _ _ _ _ _; refine draw_tree tabOk mixed [12] _ dtIF0 (by kernel_rfl) (by kernel_rfl) (by kernel_rfl) (List.Sublist.refl _) ?_) | (show drawK _ 24 _ _ _ _ _ _; refine draw_tree tabOk mixed [14] _ dtNO1 (by kernel_rfl) (by kernel_rfl) (by kernel_rfl) (List.Sublist.refl _) ?_) | (show drawK _ _ _ _ _ _ _ _; refine draw_quiet tabOk mixed (by kernel_rfl) ?_) | (show Wp _ _ _ _ _ _ _; refine Wp.go tabOk rfl ?_) | (show @cmpK _ _ _; (first | refine cmpY ?_ | refine cmpN ?_ | (refine cmp_both ?_ ?_ <;> intro _))) | (show wrapK _ _ _; refine wrapA ?_) | (show leK _ _ _; refine leA ?_) | (show roomK _ _ _; refine roomA ?_) | (show ltK _ _ _; refine ltA ?_) | (show _ ∧ _; refine ⟨?_, ?_⟩) | (show keepK _ _ _ _ _; refine keepA ?_) | refine own_keep ?_ | refine ap_old ?_))
    refine Wp.rounds 3 ?_
    by_cases hk : knownP (kept.map NodeV.pl) (movedV st n).pl = true
    · have hstep : stepP (gD (check g).2 i) (kept.map NodeV.pl, st) n.pl = ((layP (kept.map NodeV.pl) ⟨2, 0, 0, gD (check g).2 i, 0, 0, 0, numsP (gD (check g).2 i) (kept.map NodeV.pl) (movedV st n).pl, []⟩).1, st ++ [(layP (kept.map NodeV.pl) ⟨2, 0, 0, gD (check g).2 i, 0, 0, 0, numsP (gD (check g).2 i) (kept.map NodeV.pl) (movedV st n).pl, []⟩).2]) := by
        unfold stepP; simp only; rw [hfold, foldP, if_pos hk]
      rw [hstep] at hT'
      unfold layP at hT'
      have hKn := known_in hR hm hk
      have hcl2 := (numsP_in hR hm hKn).2
      have he64 := (entries_bd (gD (check g).2 i)).2
      have hfd : ∀ w' b nb nc sb sc, DeskAt w' b nb nc kept sb sc (stI st) → (∀ k ∈ kept, k.ok w' ∧ k.small) → n.ok w' → Calls Try.prog 50 #[.pointer (some ⟨b, 0, none⟩), (movedV st n).valA] w' (FoldPost w' (gD (check g).2 i) (numsP (gD (check g).2 i) (kept.map NodeV.pl) (movedV st n).pl)) := fun w' b nb nc sb sc g1 g2 g3 => by
        by_cases h6 : (movedV st n).kind = 6
        · exact folded_two g1 g2 hR _ (hmo w' g3) hms hm hk hb1 hb2 h6
        · exact folded_one g1 g2 hR _ (hmo w' g3) hms hm hk hb1 hb2 h6
      cases hf : findP (kept.map NodeV.pl) ⟨2, 0, 0, gD (check g).2 i, 0, 0, 0, numsP (gD (check g).2 i) (kept.map NodeV.pl) (movedV st n).pl, []⟩ with
      | some k =>
        rw [hf] at hT'
        (repeat' ((conv => whnf) <;> first | (show callK _ 49 _ _ _ _ _; (refine call_pure (f := 49) Try.call49 (movedV st n).valA (fun ρ w' hw => by obtain ⟨b, e, hd⟩ := desk_abs hw (by repeat (first | exact List.mem_cons_self | apply List.mem_cons_of_mem)) (by repeat (first | exact List.mem_cons_self | apply List.mem_cons_of_mem)) (by repeat (first | exact List.mem_cons_self | apply List.mem_cons_of_mem)); exact desk_call e (moved_any hd n hnah (by omega))) ?_)) | (show callK _ 50 _ _ _ _ _; (refine call_fold (gD (check g).2 i) (numsP (gD (check g).2 i) (kept.map NodeV.pl) (movedV st n).pl) Try.call50 (fun ρ w' hw => by obtain ⟨b, e, hd⟩ := desk_abs hw (by repeat (first | exact List.mem_cons_self | apply List.mem_cons_of_mem)) (by repeat (first | exact List.mem_cons_self | apply List.mem_cons_of_mem)) (by repeat (first | exact List.mem_cons_self | apply List.mem_cons_of_mem)); exact desk_call e (hfd w' b _ _ _ _ hd (holds_of_abs hw fun R h => kept_ok hko h.2) (holds_of_abs hw fun R h => hno.later h.1))) (fun u x r1 r2 r3 r4 => ?_))) | (show callK _ 51 _ _ _ _ _; (refine lay_found (m := constN u x) (fun R w' h => foldD_ok r2 r4 h.2) (fun R w' h y hy => (kept_ok hko h.1.2 y hy).1) (by omega) (by omega) (by rw [constN_pl r1 r3]; exact hf) (fun e8 e7 => ?_))) | (show drawK _ 23 _ _ _ _ _ _; refine draw_tree tabOk mixed [12] _ dtIF0 (by kernel_rfl) (by kernel_rfl) (by kernel_rfl) (List.Sublist.refl _) ?_) | (show drawK _ 24 _ _ _ _ _ _; refine draw_tree tabOk mixed [14] _ dtNO1 (by kernel_rfl) (by kernel_rfl) (by kernel_rfl) (List.Sublist.refl _) ?_) | (show drawK _ _ _ _ _ _ _ _; refine draw_quiet tabOk mixed (by kernel_rfl) ?_) | (show Wp _ _ _ _ _ _ _; refine Wp.go tabOk rfl ?_) | (show @cmpK _ _ _; (first | refine cmpY ?_ | refine cmpN ?_ | (refine cmp_both ?_ ?_ <;> intro _))) | (show wrapK _ _ _; refine wrapA ?_) | (show leK _ _ _; refine leA ?_) | (show roomK _ _ _; refine roomA ?_) | (show ltK _ _ _; refine ltA ?_) | (show _ ∧ _; refine ⟨?_, ?_⟩) | (show keepK _ _ _ _ _; refine keepA ?_) | refine own_keep ?_ | refine ap_old ?_))
        all_goals (conv => whnf)
        all_goals exact ⟨(i + 1, kept, st ++ [k]), [(4, some 9), (3, some 3)], ⟨hlt, hko, hT'⟩, by simp only; omega, rfl, ⟨rfl, rfl, rfl, rfl, rfl, rfl, trivial⟩, ⟨(by repeat (first | exact List.mem_cons_self | apply List.mem_cons_of_mem)), (by repeat (first | exact List.mem_cons_self | apply List.mem_cons_of_mem)), (by repeat (first | exact List.mem_cons_self | apply List.mem_cons_of_mem)), (by repeat (first | exact List.mem_cons_self | apply List.mem_cons_of_mem)), (by repeat (first | exact List.mem_cons_self | apply List.mem_cons_of_mem)), trivial⟩, fun R w' h => h.1⟩
      | none =>
        rw [hf] at hT'
        (repeat' ((conv => whnf) <;> first | (show callK _ 49 _ _ _ _ _; (refine call_pure (f := 49) Try.call49 (movedV st n).valA (fun ρ w' hw => by obtain ⟨b, e, hd⟩ := desk_abs hw (by repeat (first | exact List.mem_cons_self | apply List.mem_cons_of_mem)) (by repeat (first | exact List.mem_cons_self | apply List.mem_cons_of_mem)) (by repeat (first | exact List.mem_cons_self | apply List.mem_cons_of_mem)); exact desk_call e (moved_any hd n hnah (by omega))) ?_)) | (show callK _ 50 _ _ _ _ _; (refine call_fold (gD (check g).2 i) (numsP (gD (check g).2 i) (kept.map NodeV.pl) (movedV st n).pl) Try.call50 (fun ρ w' hw => by obtain ⟨b, e, hd⟩ := desk_abs hw (by repeat (first | exact List.mem_cons_self | apply List.mem_cons_of_mem)) (by repeat (first | exact List.mem_cons_self | apply List.mem_cons_of_mem)) (by repeat (first | exact List.mem_cons_self | apply List.mem_cons_of_mem)); exact desk_call e (hfd w' b _ _ _ _ hd (holds_of_abs hw fun R h => kept_ok hko h.2) (holds_of_abs hw fun R h => hno.later h.1))) (fun u x r1 r2 r3 r4 => ?_))) | (show callK _ 51 _ _ _ _ _; (refine lay_new (m := constN u x) (fun R w' h => foldD_ok r2 r4 h.2) (fun R w' h y hy => (kept_ok hko h.1.2 y hy).1) (by omega) (by omega) (by rw [constN_pl r1 r3]; exact hf) (fun e10 e8 e7 u1 u2 u3 q1 q2 q3 q4 q5 q6 => ?_))) | (show drawK _ 23 _ _ _ _ _ _; refine draw_tree tabOk mixed [12] _ dtIF0 (by kernel_rfl) (by kernel_rfl) (by kernel_rfl) (List.Sublist.refl _) ?_) | (show drawK _ 24 _ _ _ _ _ _; refine draw_tree tabOk mixed [14] _ dtNO1 (by kernel_rfl) (by kernel_rfl) (by kernel_rfl) (List.Sublist.refl _) ?_) | (show drawK _ _ _ _ _ _ _ _; refine draw_quiet tabOk mixed (by kernel_rfl) ?_) | (show Wp _ _ _ _ _ _ _; refine Wp.go tabOk rfl ?_) | (show @cmpK _ _ _; (first | refine cmpY ?_ | refine cmpN ?_ | (refine cmp_both ?_ ?_ <;> intro _))) | (show wrapK _ _ _; refine wrapA ?_) | (show leK _ _ _; refine leA ?_) | (show roomK _ _ _; refine roomA ?_) | (show ltK _ _ _; refine ltA ?_) | (show _ ∧ _; refine ⟨?_, ?_⟩) | (show keepK _ _ _ _ _; refine keepA ?_) | refine own_keep ?_ | refine ap_old ?_))
        all_goals (conv => whnf)
        all_goals exact ⟨(i + 1, kept ++ [cloneV (constN u x) u1 u2 u3], st ++ [kept.length]), [(4, some 11), (3, some 9)], ⟨hlt, cloneV_kept hko (constN_sane r2 r4) ⟨by show x.xs.length ≤ 5000; rw [r3, hcl2]; omega, Nat.zero_le _⟩ q2 q3 q4 q5 q6, by rw [lay_row q1 q3 q5, constN_pl r1 r3]; rw [List.length_map] at hT'; exact hT'⟩, by simp only; omega, rfl, ⟨rfl, rfl, rfl, rfl, rfl, rfl, trivial⟩, ⟨(by repeat (first | exact List.mem_cons_self | apply List.mem_cons_of_mem)), (by repeat (first | exact List.mem_cons_self | apply List.mem_cons_of_mem)), (by repeat (first | exact List.mem_cons_self | apply List.mem_cons_of_mem)), (by repeat (first | exact List.mem_cons_self | apply List.mem_cons_of_mem)), (by repeat (first | exact List.mem_cons_self | apply List.mem_cons_of_mem)), trivial⟩, fun R w' h => ⟨h.1.1.1.1.1, keptA_snoc h.1.1.1.1.2 ⟨h.1.1.2, h.1.2, h.2⟩⟩⟩
    · have hstep : stepP (gD (check g).2 i) (kept.map NodeV.pl, st) n.pl = ((layP (kept.map NodeV.pl) (movedV st n).pl).1, st ++ [(layP (kept.map NodeV.pl) (movedV st n).pl).2]) := by
        unfold stepP; simp only; rw [hfold, foldP, if_neg hk]
      rw [hstep] at hT'
      unfold layP at hT'
      cases hf : findP (kept.map NodeV.pl) (movedV st n).pl with
      | some k =>
        rw [hf] at hT'
        (repeat' ((conv => whnf) <;> first | (show callK _ 49 _ _ _ _ _; (refine call_pure (f := 49) Try.call49 (movedV st n).valA (fun ρ w' hw => by obtain ⟨b, e, hd⟩ := desk_abs hw (by repeat (first | exact List.mem_cons_self | apply List.mem_cons_of_mem)) (by repeat (first | exact List.mem_cons_self | apply List.mem_cons_of_mem)) (by repeat (first | exact List.mem_cons_self | apply List.mem_cons_of_mem)); exact desk_call e (moved_any hd n hnah (by omega))) ?_)) | (show callK _ 50 _ _ _ _ _; (refine call_pure (f := 50) Try.call50 (movedV st n).valA (fun ρ w' hw => by obtain ⟨b, e, hd⟩ := desk_abs hw (by repeat (first | exact List.mem_cons_self | apply List.mem_cons_of_mem)) (by repeat (first | exact List.mem_cons_self | apply List.mem_cons_of_mem)) (by repeat (first | exact List.mem_cons_self | apply List.mem_cons_of_mem)); exact desk_call e (folded_no hd (movedV st n) hmah (by simpa using hk))) ?_)) | (show callK _ 51 _ _ _ _ _; refine lay_found (m := movedV st n) (fun R w' h => hmo w' (hno.later h.1)) (fun R w' h x hx => (kept_ok hko h.2 x hx).1) (by omega) (by omega) hf (fun e8 e7 => ?_)) | (show drawK _ 23 _ _ _ _ _ _; refine draw_tree tabOk mixed [12] _ dtIF0 (by kernel_rfl) (by kernel_rfl) (by kernel_rfl) (List.Sublist.refl _) ?_) | (show drawK _ 24 _ _ _ _ _ _; refine draw_tree tabOk mixed [14] _ dtNO1 (by kernel_rfl) (by kernel_rfl) (by kernel_rfl) (List.Sublist.refl _) ?_) | (show drawK _ _ _ _ _ _ _ _; refine draw_quiet tabOk mixed (by kernel_rfl) ?_) | (show Wp _ _ _ _ _ _ _; refine Wp.go tabOk rfl ?_) | (show @cmpK _ _ _; (first | refine cmpY ?_ | refine cmpN ?_ | (refine cmp_both ?_ ?_ <;> intro _))) | (show wrapK _ _ _; refine wrapA ?_) | (show leK _ _ _; refine leA ?_) | (show roomK _ _ _; refine roomA ?_) | (show ltK _ _ _; refine ltA ?_) | (show _ ∧ _; refine ⟨?_, ?_⟩) | (show keepK _ _ _ _ _; refine keepA ?_) | refine own_keep ?_ | refine ap_old ?_))
        all_goals (conv => whnf)
        all_goals exact ⟨(i + 1, kept, st ++ [k]), [(4, some 9), (3, some 3)], ⟨hlt, hko, hT'⟩, by simp only; omega, rfl, ⟨rfl, rfl, rfl, rfl, rfl, rfl, trivial⟩, ⟨(by repeat (first | exact List.mem_cons_self | apply List.mem_cons_of_mem)), (by repeat (first | exact List.mem_cons_self | apply List.mem_cons_of_mem)), (by repeat (first | exact List.mem_cons_self | apply List.mem_cons_of_mem)), (by repeat (first | exact List.mem_cons_self | apply List.mem_cons_of_mem)), (by repeat (first | exact List.mem_cons_self | apply List.mem_cons_of_mem)), trivial⟩, fun R w' h => h⟩
      | none =>
        rw [hf] at hT'
        have hmsn : (movedV st n).saneN := (hmo w hno).saneN
        (repeat' ((conv => whnf) <;> first | (show callK _ 49 _ _ _ _ _; (refine call_pure (f := 49) Try.call49 (movedV st n).valA (fun ρ w' hw => by obtain ⟨b, e, hd⟩ := desk_abs hw (by repeat (first | exact List.mem_cons_self | apply List.mem_cons_of_mem)) (by repeat (first | exact List.mem_cons_self | apply List.mem_cons_of_mem)) (by repeat (first | exact List.mem_cons_self | apply List.mem_cons_of_mem)); exact desk_call e (moved_any hd n hnah (by omega))) ?_)) | (show callK _ 50 _ _ _ _ _; (refine call_pure (f := 50) Try.call50 (movedV st n).valA (fun ρ w' hw => by obtain ⟨b, e, hd⟩ := desk_abs hw (by repeat (first | exact List.mem_cons_self | apply List.mem_cons_of_mem)) (by repeat (first | exact List.mem_cons_self | apply List.mem_cons_of_mem)) (by repeat (first | exact List.mem_cons_self | apply List.mem_cons_of_mem)); exact desk_call e (folded_no hd (movedV st n) hmah (by simpa using hk))) ?_)) | (show callK _ 51 _ _ _ _ _; refine lay_new (m := movedV st n) (fun R w' h => hmo w' (hno.later h.1)) (fun R w' h x hx => (kept_ok hko h.2 x hx).1) (by omega) (by omega) hf (fun e10 e8 e7 u1 u2 u3 q1 q2 q3 q4 q5 q6 => ?_)) | (show drawK _ 23 _ _ _ _ _ _; refine draw_tree tabOk mixed [12] _ dtIF0 (by kernel_rfl) (by kernel_rfl) (by kernel_rfl) (List.Sublist.refl _) ?_) | (show drawK _ 24 _ _ _ _ _ _; refine draw_tree tabOk mixed [14] _ dtNO1 (by kernel_rfl) (by kernel_rfl) (by kernel_rfl) (List.Sublist.refl _) ?_) | (show drawK _ _ _ _ _ _ _ _; refine draw_quiet tabOk mixed (by kernel_rfl) ?_) | (show Wp _ _ _ _ _ _ _; refine Wp.go tabOk rfl ?_) | (show @cmpK _ _ _; (first | refine cmpY ?_ | refine cmpN ?_ | (refine cmp_both ?_ ?_ <;> intro _))) | (show wrapK _ _ _; refine wrapA ?_) | (show leK _ _ _; refine leA ?_) | (show roomK _ _ _; refine roomA ?_) | (show ltK _ _ _; refine ltA ?_) | (show _ ∧ _; refine ⟨?_, ?_⟩) | (show keepK _ _ _ _ _; refine keepA ?_) | refine own_keep ?_ | refine ap_old ?_))
        all_goals (conv => whnf)
        all_goals exact ⟨(i + 1, kept ++ [cloneV (movedV st n) u1 u2 u3], st ++ [kept.length]), [(4, some 11), (3, some 9)], ⟨hlt, cloneV_kept hko hmsn hms q2 q3 q4 q5 q6, by rw [lay_row q1 q3 q5]; rw [List.length_map] at hT'; exact hT'⟩, by simp only; omega, rfl, ⟨rfl, rfl, rfl, rfl, rfl, rfl, trivial⟩, ⟨(by repeat (first | exact List.mem_cons_self | apply List.mem_cons_of_mem)), (by repeat (first | exact List.mem_cons_self | apply List.mem_cons_of_mem)), (by repeat (first | exact List.mem_cons_self | apply List.mem_cons_of_mem)), (by repeat (first | exact List.mem_cons_self | apply List.mem_cons_of_mem)), (by repeat (first | exact List.mem_cons_self | apply List.mem_cons_of_mem)), trivial⟩, fun R w' h => ⟨h.1.1.1.1, keptA_snoc h.1.1.1.2 ⟨h.1.1.2, h.1.2, h.2⟩⟩⟩
  · obtain rfl : i = g.l.length := by omega
    have hdone : tidyL (g.l.map NodeV.pl) (check g).2 ([], []) = (kept.map NodeV.pl, st) := by
      have e : (g.l.map NodeV.pl).length = g.l.length := List.length_map _
      rw [← e] at hT
      exact hT.done
    have hstl := hT.len
    have hkl := hT.few
    rw [List.length_map] at hkl
    obtain ⟨rsh, rsp, hR, hS⟩ := hT.ok
    have hoL : g.out.toNat < st.length := by omega
    have hoK : st.getD g.out.toNat 0 < kept.length := by have := hS.lt _ hoL; rwa [hR.lenS, List.length_map] at this
    have hx : tidyP (g.l.map NodeV.pl) (check g).2 g.out.toNat = ((cutL (needB (kept.map NodeV.pl) (st.getD g.out.toNat 0)) (kept.map NodeV.pl) 0 ([], [])).1, (cutL (needB (kept.map NodeV.pl) (st.getD g.out.toNat 0)) (kept.map NodeV.pl) 0 ([], [])).2.getD (st.getD g.out.toNat 0) 0) := by unfold tidyP; rw [hdone]
    rw [hx]
    have hoR : (ints (stI st))[g.out.toNat]? = some [.int .i64 (st.getD g.out.toNat 0)] := stI_get hoL
    generalize st.getD g.out.toNat 0 = out at *
    (repeat' ((conv => whnf) <;> first | (show mapNewK _ _ _ _; refine mapNew_set (fun r => ?_)) | (show idxRowK _ _ _ _ _ _; (refine idxRow_of g.out.toNat (by omega) hoL (by rw [stI_length]; exact Nat.le_refl _) ?_)) | (show rowK _ _ _ _; refine row_of _ _ hoR rfl ?_) | (show callK _ 52 _ _ _ _ _; (refine call_map (by repeat (first | exact List.mem_cons_self | apply List.mem_cons_of_mem)) Try.call52 (fun _ => .tuple #[]) setM (NeedR (kept.map NodeV.pl) out (fun _ => false)) (fun ρ w' hw hm' => by obtain ⟨b, e, hd⟩ := desk_abs hw (by repeat (first | exact List.mem_cons_self | apply List.mem_cons_of_mem)) (by repeat (first | exact List.mem_cons_self | apply List.mem_cons_of_mem)) (by repeat (first | exact List.mem_cons_self | apply List.mem_cons_of_mem)); exact desk_call3 e (needed_any hR (out + 1) out (Nat.lt_succ_self _) hoK w' _ hd hm')) (fun s hs => ?_))) | (show makeK _ _ _ _; (refine make_of kept.length rfl rfl (by show 8 * _ ≤ _; omega) (by omega) ?_)) | (show drawK _ 23 _ _ _ _ _ _; refine draw_tree tabOk mixed [12] _ dtIF0 (by kernel_rfl) (by kernel_rfl) (by kernel_rfl) (List.Sublist.refl _) ?_) | (show drawK _ 24 _ _ _ _ _ _; refine draw_tree tabOk mixed [14] _ dtNO1 (by kernel_rfl) (by kernel_rfl) (by kernel_rfl) (List.Sublist.refl _) ?_) | (show drawK _ _ _ _ _ _ _ _; refine draw_quiet tabOk mixed (by kernel_rfl) ?_) | (show Wp _ _ _ _ _ _ _; refine Wp.go tabOk rfl ?_) | (show @cmpK _ _ _; (first | refine cmpY ?_ | refine cmpN ?_ | (refine cmp_both ?_ ?_ <;> intro _))) | (show wrapK _ _ _; refine wrapA ?_) | (show leK _ _ _; refine leA ?_) | (show roomK _ _ _; refine roomA ?_) | (show ltK _ _ _; refine ltA ?_) | (show _ ∧ _; refine ⟨?_, ?_⟩) | (show keepK _ _ _ _ _; refine keepA ?_) | refine own_keep ?_ | refine ap_old ?_))
    have hoK' : out < (kept.map NodeV.pl).length := by rw [List.length_map]; exact hoK
    obtain rfl := need_set hR.aheads hoK' hs
    generalize hneed : needB (kept.map NodeV.pl) out = need at *
    generalize hfin : cutL need (kept.map NodeV.pl) 0 ([], []) = fin at *
    refine Wp.loop (σ := Nat × List NodeV × List Nat) 9 (fun ⟨j, acc, p⟩ => [(13, .lp 7 0 0 0), (11, .c (.map (some r))), (12, .c (.int .i64 out)), (2, .lp 1 0 0 0), (78, .os 3 kept.length), (79, .c (.int .i64 kept.length)), (80, .c (.int .i64 j))])
      (fun ⟨j, acc, p⟩ => [(8, .rows (nodeRows acc) 9 38), (7, .box [.os 8 acc.length, .c (.int .i64 0), .os 6 kept.length] 81), (6, .rows (ints (stI (gridN kept.length p))) 1 3), (5, .ext (mapO r (setM need))), (3, .rows (nodeRows kept) 9 38), (1, .box [.c (.slice none 0 0), .c (.int .i64 0)] 26)])
      (fun _ => (baseA w).and (keptA w.heap.size kept))
      (fun ⟨j, acc, p⟩ => j ≤ kept.length ∧ p.length = j ∧ acc.length ≤ j ∧ KeptOk acc ∧ From kept acc ∧ cutL need ((kept.map NodeV.pl).drop j) j (acc.map NodeV.pl, p) = fin ∧ ∀ k, p.getD k 0 ≤ 1000000) (fun s => kept.length - s.1) (0, [], []) [(8, none)] (by decide) (fun s => ⟨rfl, rfl⟩)
      ⟨Nat.zero_le _, rfl, Nat.zero_le _, fun n hn => by simp at hn, fun n hn => by simp at hn, hfin, fun k => Nat.zero_le _⟩ ⟨rfl, ⟨rfl, rfl, rfl, rfl, rfl, rfl, rfl, trivial⟩, ⟨rfl, (by repeat (first | exact List.mem_cons_self | apply List.mem_cons_of_mem)), ?_, (by repeat (first | exact List.mem_cons_self | apply List.mem_cons_of_mem)), (by repeat (first | exact List.mem_cons_self | apply List.mem_cons_of_mem)), (by repeat (first | exact List.mem_cons_self | apply List.mem_cons_of_mem)), trivial⟩, fun R w' h => h⟩ ?_
    · show (6, Ent.rows (ints (stI (gridN kept.length []))) 1 3) ∈ _
      rw [gridN_start]
      exact (by repeat (first | exact List.mem_cons_self | apply List.mem_cons_of_mem))
    rintro ⟨j, acc, p⟩ ⟨hj, hpl, hal, hao, hfr, hcut, hple⟩
    have hgl : (ints (stI (gridN kept.length p))).length = kept.length := by rw [stI_length, gridN_length (by omega)]
    by_cases hlt : j < kept.length
    · have hrow := nodeRows_get hlt
      have hxm := List.getElem_mem hlt
      have hjr : j < (kept.map NodeV.pl).length := by rw [List.length_map]; exact hlt
      have hxr : (kept.map NodeV.pl)[j] = kept[j].pl := by simp
      have hxa := hR.ahead (List.getElem?_eq_getElem hjr)
      rw [List.drop_eq_getElem_cons hjr] at hcut
      rw [hxr] at hxa hcut
      generalize kept[j] = x at *
      have hxo := hko x hxm
      have hkx : x.pl.kind = x.kind := rfl
      rw [cutL_cons, hkx] at hcut
      have hq : (gridN kept.length (p ++ [acc.length])).length = kept.length := gridN_length (by rw [List.length_append, List.length_singleton]; omega)
      have hxq : AheadP x.pl (gridN kept.length (p ++ [acc.length])).length := by rw [hq]; exact hxa.mono (by omega)
      have hxv : (movedV (gridN kept.length (p ++ [acc.length])) x).pl = movedP p x.pl := by
        rw [movedV_pl, gridN_moved (by rw [List.length_append, List.length_singleton, hpl]; exact hxa.mono (by omega)), moved_snoc (by rw [hpl]; exact hxa)]
      by_cases hin : need j = true ∨ x.kind = 1
      · rw [if_pos hin] at hcut
        have hkeep : KeptOk (acc ++ [movedV (gridN kept.length (p ++ [acc.length])) x]) := kept_snoc hao (movedV_sane hxo.1 (gridN_le (snoc_le hple (by omega)))) ⟨hxo.2.data, hxo.2.bias⟩
        have hcut2 : cutL need ((kept.map NodeV.pl).drop (j + 1)) (j + 1) ((acc ++ [movedV (gridN kept.length (p ++ [acc.length])) x]).map NodeV.pl, p ++ [acc.length]) = fin := by
          rw [List.map_append, List.map_cons, List.map_nil, hxv]
          simp only [List.length_map] at hcut
          exact hcut
        cases hsb : need j with
        | true =>
          (repeat' ((conv => whnf) <;> first | (show lookK _ _ _ _ _ _ _ _; (refine look_set (by repeat (first | exact List.mem_cons_self | apply List.mem_cons_of_mem)) hsb ?_)) | (show idxRowK _ _ _ _ _ _; (first | refine idxRow_of j rfl hlt (Nat.le_of_eq (nodeRows_length kept).symm) ?_ | refine idxRow_of j rfl hlt (Nat.le_of_eq hgl.symm) ?_)) | (show rowAggK _ _ _ _ _; refine rowAgg_of _ _ hrow rfl rfl ?_) | (show rowStoreK _ _ _ _ _; refine gridN_store hpl hlt ?_) | (show drawK _ 24 _ _ _ _ _ _; refine draw_tree tabOk mixed [14] _ dtNO1 (by kernel_rfl) (by kernel_rfl) (by kernel_rfl) (List.Sublist.cons_cons _ (List.Sublist.cons _ (List.Sublist.refl _))) ?_) | (show callK _ 49 _ _ _ _ _; (refine call_pure (f := 49) Try.call49 (movedV (gridN kept.length (p ++ [acc.length])) x).valA (fun ρ w' hw => by obtain ⟨b, e, hd⟩ := desk_abs2 (st := gridN kept.length (p ++ [acc.length])) hw hq (by repeat (first | exact List.mem_cons_self | apply List.mem_cons_of_mem)) (by repeat (first | exact List.mem_cons_self | apply List.mem_cons_of_mem)) (by repeat (first | exact List.mem_cons_self | apply List.mem_cons_of_mem)); exact desk_call e (moved_any hd x hxq (by omega))) ?_)) | (show ownK _ ((_, .rows (List.take acc.length _ ++ _) _ _) :: _) _ _ _; refine own_eq (ys := nodeRows (acc ++ [movedV (gridN kept.length (p ++ [acc.length])) x])) (m := (acc ++ [movedV (gridN kept.length (p ++ [acc.length])) x]).length) ?_ (nodes_snoc acc (movedV (gridN kept.length (p ++ [acc.length])) x)) (by show acc.length + 1 = _; rw [List.length_append]; rfl)) | (show leK _ _ _; (refine le_of (by rw [nodeRows_length]; exact Nat.le_refl _) ?_)) | (show roomK _ _ _; (refine room_of (by show (acc.length + 1) * 120 ≤ 140737488355328; omega) ?_)) | (show keepK _ _ _ _ _; (first | refine keep_of (List.Sublist.cons _ (List.Sublist.cons _ (List.Sublist.refl _))) (fun _ _ h => h) ?_ | refine keep_of (List.Sublist.cons_cons _ (List.Sublist.cons _ (List.Sublist.refl _))) (fun _ _ h => h) ?_ | refine keep_of (List.Sublist.cons _ (List.Sublist.cons_cons _ (List.Sublist.cons _ (List.Sublist.refl _)))) (fun _ _ h => h) ?_)) | (show drawK _ 23 _ _ _ _ _ _; refine draw_tree tabOk mixed [12] _ dtIF0 (by kernel_rfl) (by kernel_rfl) (by kernel_rfl) (List.Sublist.refl _) ?_) | (show drawK _ _ _ _ _ _ _ _; refine draw_quiet tabOk mixed (by kernel_rfl) ?_) | (show Wp _ _ _ _ _ _ _; refine Wp.go tabOk rfl ?_) | (show @cmpK _ _ _; (first | refine cmpY ?_ | refine cmpN ?_ | (refine cmp_both ?_ ?_ <;> intro _))) | (show wrapK _ _ _; refine wrapA ?_) | (show leK _ _ _; refine leA ?_) | (show roomK _ _ _; refine roomA ?_) | (show ltK _ _ _; refine ltA ?_) | (show _ ∧ _; refine ⟨?_, ?_⟩) | (show keepK _ _ _ _ _; refine keepA ?_) | refine own_keep ?_ | refine ap_old ?_))
          all_goals (conv => whnf)
          all_goals exact ⟨(j + 1, acc ++ [movedV (gridN kept.length (p ++ [acc.length])) x], p ++ [acc.length]), [(8, some 11)], ⟨hlt, by rw [List.length_append, List.length_singleton, hpl], by rw [List.length_append, List.length_singleton]; omega, hkeep, from_snoc hfr hxm, hcut2, snoc_le hple (by omega)⟩, by simp only; omega, rfl, ⟨rfl, rfl, rfl, rfl, rfl, rfl, rfl, trivial⟩, ⟨(by repeat (first | exact List.mem_cons_self | apply List.mem_cons_of_mem)), (by repeat (first | exact List.mem_cons_self | apply List.mem_cons_of_mem)), (by repeat (first | exact List.mem_cons_self | apply List.mem_cons_of_mem)), (by repeat (first | exact List.mem_cons_self | apply List.mem_cons_of_mem)), (by repeat (first | exact List.mem_cons_self | apply List.mem_cons_of_mem)), (by repeat (first | exact List.mem_cons_self | apply List.mem_cons_of_mem)), trivial⟩, fun R w' h => h⟩
        | false =>
          have hk1 : x.kind = 1 := by rw [hsb] at hin; simpa using hin
          (repeat' ((conv => whnf) <;> first | (show lookK _ _ _ _ _ _ _ _; (refine look_set (by repeat (first | exact List.mem_cons_self | apply List.mem_cons_of_mem)) hsb ?_)) | (show idxRowK _ _ _ _ _ _; (first | refine idxRow_of j rfl hlt (Nat.le_of_eq (nodeRows_length kept).symm) ?_ | refine idxRow_of j rfl hlt (Nat.le_of_eq hgl.symm) ?_)) | (show rowAggK _ _ _ _ _; refine rowAgg_of _ _ hrow rfl rfl ?_) | (show rowStoreK _ _ _ _ _; refine gridN_store hpl hlt ?_) | (show drawK _ 24 _ _ _ _ _ _; refine draw_tree tabOk mixed [14] _ dtNO1 (by kernel_rfl) (by kernel_rfl) (by kernel_rfl) (List.Sublist.cons_cons _ (List.Sublist.cons _ (List.Sublist.refl _))) ?_) | (show callK _ 49 _ _ _ _ _; (refine call_pure (f := 49) Try.call49 (movedV (gridN kept.length (p ++ [acc.length])) x).valA (fun ρ w' hw => by obtain ⟨b, e, hd⟩ := desk_abs2 (st := gridN kept.length (p ++ [acc.length])) hw hq (by repeat (first | exact List.mem_cons_self | apply List.mem_cons_of_mem)) (by repeat (first | exact List.mem_cons_self | apply List.mem_cons_of_mem)) (by repeat (first | exact List.mem_cons_self | apply List.mem_cons_of_mem)); exact desk_call e (moved_any hd x hxq (by omega))) ?_)) | (show ownK _ ((_, .rows (List.take acc.length _ ++ _) _ _) :: _) _ _ _; refine own_eq (ys := nodeRows (acc ++ [movedV (gridN kept.length (p ++ [acc.length])) x])) (m := (acc ++ [movedV (gridN kept.length (p ++ [acc.length])) x]).length) ?_ (nodes_snoc acc (movedV (gridN kept.length (p ++ [acc.length])) x)) (by show acc.length + 1 = _; rw [List.length_append]; rfl)) | (show leK _ _ _; (refine le_of (by rw [nodeRows_length]; exact Nat.le_refl _) ?_)) | (show roomK _ _ _; (refine room_of (by show (acc.length + 1) * 120 ≤ 140737488355328; omega) ?_)) | (show keepK _ _ _ _ _; (first | refine keep_of (List.Sublist.cons _ (List.Sublist.cons _ (List.Sublist.refl _))) (fun _ _ h => h) ?_ | refine keep_of (List.Sublist.cons_cons _ (List.Sublist.cons _ (List.Sublist.refl _))) (fun _ _ h => h) ?_ | refine keep_of (List.Sublist.cons _ (List.Sublist.cons_cons _ (List.Sublist.cons _ (List.Sublist.refl _)))) (fun _ _ h => h) ?_)) | (show drawK _ 23 _ _ _ _ _ _; refine draw_tree tabOk mixed [12] _ dtIF0 (by kernel_rfl) (by kernel_rfl) (by kernel_rfl) (List.Sublist.refl _) ?_) | (show drawK _ _ _ _ _ _ _ _; refine draw_quiet tabOk mixed (by kernel_rfl) ?_) | (show Wp _ _ _ _ _ _ _; refine Wp.go tabOk rfl ?_) | (show @cmpK _ _ _; (first | refine cmpY ?_ | refine cmpN ?_ | (refine cmp_both ?_ ?_ <;> intro _))) | (show wrapK _ _ _; refine wrapA ?_) | (show leK _ _ _; refine leA ?_) | (show roomK _ _ _; refine roomA ?_) | (show ltK _ _ _; refine ltA ?_) | (show _ ∧ _; refine ⟨?_, ?_⟩) | (show keepK _ _ _ _ _; refine keepA ?_) | refine own_keep ?_ | refine ap_old ?_))
          all_goals (conv => whnf)
          all_goals exact ⟨(j + 1, acc ++ [movedV (gridN kept.length (p ++ [acc.length])) x], p ++ [acc.length]), [(8, some 11)], ⟨hlt, by rw [List.length_append, List.length_singleton, hpl], by rw [List.length_append, List.length_singleton]; omega, hkeep, from_snoc hfr hxm, hcut2, snoc_le hple (by omega)⟩, by simp only; omega, rfl, ⟨rfl, rfl, rfl, rfl, rfl, rfl, rfl, trivial⟩, ⟨(by repeat (first | exact List.mem_cons_self | apply List.mem_cons_of_mem)), (by repeat (first | exact List.mem_cons_self | apply List.mem_cons_of_mem)), (by repeat (first | exact List.mem_cons_self | apply List.mem_cons_of_mem)), (by repeat (first | exact List.mem_cons_self | apply List.mem_cons_of_mem)), (by repeat (first | exact List.mem_cons_self | apply List.mem_cons_of_mem)), (by repeat (first | exact List.mem_cons_self | apply List.mem_cons_of_mem)), trivial⟩, fun R w' h => h⟩
      · rw [if_neg hin] at hcut
        have hsb : need j = false := by simpa using fun h => hin (.inl h)
        have hk1 : ¬ x.kind = 1 := fun h => hin (.inr h)
        (repeat' ((conv => whnf) <;> first | (show lookK _ _ _ _ _ _ _ _; (refine look_set (by repeat (first | exact List.mem_cons_self | apply List.mem_cons_of_mem)) hsb ?_)) | (show idxRowK _ _ _ _ _ _; (first | refine idxRow_of j rfl hlt (Nat.le_of_eq (nodeRows_length kept).symm) ?_ | refine idxRow_of j rfl hlt (Nat.le_of_eq hgl.symm) ?_)) | (show rowAggK _ _ _ _ _; refine rowAgg_of _ _ hrow rfl rfl ?_) | (show rowStoreK _ _ _ _ _; refine gridN_store hpl hlt ?_) | (show drawK _ 24 _ _ _ _ _ _; refine draw_tree tabOk mixed [14] _ dtNO1 (by kernel_rfl) (by kernel_rfl) (by kernel_rfl) (List.Sublist.cons_cons _ (List.Sublist.cons _ (List.Sublist.refl _))) ?_) | (show callK _ 49 _ _ _ _ _; (refine call_pure (f := 49) Try.call49 (movedV (gridN kept.length (p ++ [acc.length])) x).valA (fun ρ w' hw => by obtain ⟨b, e, hd⟩ := desk_abs2 (st := gridN kept.length (p ++ [acc.length])) hw hq (by repeat (first | exact List.mem_cons_self | apply List.mem_cons_of_mem)) (by repeat (first | exact List.mem_cons_self | apply List.mem_cons_of_mem)) (by repeat (first | exact List.mem_cons_self | apply List.mem_cons_of_mem)); exact desk_call e (moved_any hd x hxq (by omega))) ?_)) | (show ownK _ ((_, .rows (List.take acc.length _ ++ _) _ _) :: _) _ _ _; refine own_eq (ys := nodeRows (acc ++ [movedV (gridN kept.length (p ++ [acc.length])) x])) (m := (acc ++ [movedV (gridN kept.length (p ++ [acc.length])) x]).length) ?_ (nodes_snoc acc (movedV (gridN kept.length (p ++ [acc.length])) x)) (by show acc.length + 1 = _; rw [List.length_append]; rfl)) | (show leK _ _ _; (refine le_of (by rw [nodeRows_length]; exact Nat.le_refl _) ?_)) | (show roomK _ _ _; (refine room_of (by show (acc.length + 1) * 120 ≤ 140737488355328; omega) ?_)) | (show keepK _ _ _ _ _; (first | refine keep_of (List.Sublist.cons _ (List.Sublist.cons _ (List.Sublist.refl _))) (fun _ _ h => h) ?_ | refine keep_of (List.Sublist.cons_cons _ (List.Sublist.cons _ (List.Sublist.refl _))) (fun _ _ h => h) ?_ | refine keep_of (List.Sublist.cons _ (List.Sublist.cons_cons _ (List.Sublist.cons _ (List.Sublist.refl _)))) (fun _ _ h => h) ?_)) | (show drawK _ 23 _ _ _ _ _ _; refine draw_tree tabOk mixed [12] _ dtIF0 (by kernel_rfl) (by kernel_rfl) (by kernel_rfl) (List.Sublist.refl _) ?_) | (show drawK _ _ _ _ _ _ _ _; refine draw_quiet tabOk mixed (by kernel_rfl) ?_) | (show Wp _ _ _ _ _ _ _; refine Wp.go tabOk rfl ?_) | (show @cmpK _ _ _; (first | refine cmpY ?_ | refine cmpN ?_ | (refine cmp_both ?_ ?_ <;> intro _))) | (show wrapK _ _ _; refine wrapA ?_) | (show leK _ _ _; refine leA ?_) | (show roomK _ _ _; refine roomA ?_) | (show ltK _ _ _; refine ltA ?_) | (show _ ∧ _; refine ⟨?_, ?_⟩) | (show keepK _ _ _ _ _; refine keepA ?_) | refine own_keep ?_ | refine ap_old ?_))
        all_goals (conv => whnf)
        all_goals exact ⟨(j + 1, acc, p ++ [0]), [(8, some 8)], ⟨hlt, by rw [List.length_append, List.length_singleton, hpl], by omega, hao, hfr, hcut, snoc_le hple (Nat.zero_le _)⟩, by simp only; omega, rfl, ⟨rfl, rfl, rfl, rfl, rfl, rfl, rfl, trivial⟩, ⟨(by repeat (first | exact List.mem_cons_self | apply List.mem_cons_of_mem)), (by repeat (first | exact List.mem_cons_self | apply List.mem_cons_of_mem)), gridN_here (by omega) (by repeat (first | exact List.mem_cons_self | apply List.mem_cons_of_mem)), (by repeat (first | exact List.mem_cons_self | apply List.mem_cons_of_mem)), (by repeat (first | exact List.mem_cons_self | apply List.mem_cons_of_mem)), (by repeat (first | exact List.mem_cons_self | apply List.mem_cons_of_mem)), trivial⟩, fun R w' h => h⟩
    · obtain rfl : j = kept.length := by omega
      rw [List.drop_of_length_le (by rw [List.length_map]; exact Nat.le_refl _)] at hcut
      have hcut : (acc.map NodeV.pl, p) = fin := hcut
      subst hcut
      have hgp : gridN kept.length p = p := by unfold gridN; rw [hpl, Nat.sub_self]; simp
      have hop : (ints (stI (gridN kept.length p)))[out]? = some [.int .i64 (p.getD out 0)] := by rw [hgp]; exact stI_get (by omega)
      (repeat' ((conv => whnf) <;> first | (show idxRowK _ _ _ _ _ _; refine idxRow_of out rfl hoK (Nat.le_of_eq hgl.symm) ?_) | (show rowK _ _ _ _; refine row_of _ _ hop rfl ?_) | (show drawK _ 23 _ _ _ _ _ _; refine draw_tree tabOk mixed [12] _ dtIF0 (by kernel_rfl) (by kernel_rfl) (by kernel_rfl) (List.Sublist.refl _) ?_) | (show drawK _ 24 _ _ _ _ _ _; refine draw_tree tabOk mixed [14] _ dtNO1 (by kernel_rfl) (by kernel_rfl) (by kernel_rfl) (List.Sublist.refl _) ?_) | (show drawK _ _ _ _ _ _ _ _; refine draw_quiet tabOk mixed (by kernel_rfl) ?_) | (show Wp _ _ _ _ _ _ _; refine Wp.go tabOk rfl ?_) | (show @cmpK _ _ _; (first | refine cmpY ?_ | refine cmpN ?_ | (refine cmp_both ?_ ?_ <;> intro _))) | (show wrapK _ _ _; refine wrapA ?_) | (show leK _ _ _; refine leA ?_) | (show roomK _ _ _; refine roomA ?_) | (show ltK _ _ _; refine ltA ?_) | (show _ ∧ _; refine ⟨?_, ?_⟩) | (show keepK _ _ _ _ _; refine keepA ?_) | refine own_keep ?_ | refine ap_old ?_))
      all_goals (conv => whnf)
      all_goals exact tidy_ends rfl (fun R w' h => h.1) (fun R w' h => h.2) (by repeat (first | exact List.mem_cons_self | apply List.mem_cons_of_mem)) hfr hao hsp rfl
end Go.Proofs.Ytdmkdogakbipbaa

/- OB -/
namespace Go.Proofs.Ytdmkdogakbipbaa
open Go.SX Go.RowKit
section
variable {l : List NodeP} {sh : List (List Int)} {sp : List Sp} {row : List NodeP} {rsh : List (List Int)} {rsp : List Sp} {st : List Nat} {n : NodeP} {i : Nat}
theorem moved_on (hL : RowOk l sh sp) (hR : RowOk row rsh rsp) (hn : l[i]? = some n)
    (hSA : n.kind ≠ 1 → n.kind ≠ 2 → st.getD n.a.toNat 0 < rsh.length ∧ gD rsh (st.getD n.a.toNat 0) = gD sh n.a.toNat ∧ tight (gS rsp (st.getD n.a.toNat 0)) (gS sp n.a.toNat))
    (hSB : n.kind = 6 → st.getD n.b.toNat 0 < rsh.length ∧ gD rsh (st.getD n.b.toNat 0) = gD sh n.b.toNat ∧ tight (gS rsp (st.getD n.b.toNat 0)) (gS sp n.b.toNat)) :
    NodeIn (movedP st n).toV rsh (gD sh i) ∧ tight (spanP (movedP st n) (gD sh i) rsh rsp) (gS sp i) := by
  obtain ⟨e0, ek, ea, ea2, eb, eb2⟩ := moved_eq st n
  have hni := hL.node _ _ hn
  have hah := hL.ahead hn
  have hti := (hL.lenK hn).2
  have hf := hni.form
  rw [hti] at hf
  have kk : n.toV.kind = n.kind := rfl
  have hA : n.kind ≠ 1 → n.kind ≠ 2 → (movedP st n).a.toNat = st.getD n.a.toNat 0 := fun h1 h2 => by rw [ea h1 h2]; omega
  have hB : n.kind = 6 → (movedP st n).b.toNat = st.getD n.b.toNat 0 := fun h => by rw [eb h]; omega
  refine ⟨⟨?_, ?_, ?_⟩, ?_⟩
  · rw [e0]
    refine form_move hf (fun h1 h2 => ?_) (fun h => ?_) (fun h => ?_) (fun h => ?_)
    · have := (hSA h1 h2).1
      rw [ea h1 h2]; omega
    · exact ea2 h
    · have := (hSB h).1
      rw [eb h]; omega
    · exact eb2 h
  · rw [e0, shape_move (sh := sh.take i) (fun h1 h2 => ?_) (fun h => ?_)]
    · exact hni.shape
    · show gD rsh (movedP st n).a.toNat = gD (sh.take i) n.a.toNat
      rw [hA h1 h2, (hSA h1 h2).2.1, gD_take (hah.a1 h1 h2)]
    · show gD rsh (movedP st n).b.toNat = gD (sh.take i) n.b.toNat
      rw [hB h, (hSB h).2.1, gD_take (hah.b1 h)]
  · rw [e0, near_move]; exact hni.near
  · obtain ⟨q1, q2, q3⟩ := hL.span _ _ hn
    rw [q1, spanP_take hah]
    unfold spanP
    rw [e0, ends_move]
    by_cases h12 : n.kind = 1 ∨ n.kind = 2
    · rw [ends_free (n := n.toV) h12 _ (entries (gD sh i)).toNat _ (gD sh n.a.toNat) _ _ (gS (sp.take i) n.a.toNat) (gS (sp.take i) n.b.toNat)]
      exact tight_refl _
    · have ha1 := hah.a1 (by omega) (by omega)
      have hp := hL.place hn
      rw [gD_take ha1] at hp
      have sA := hSA (by omega) (by omega)
      rw [hA (by omega) (by omega), sA.2.1, gS_take ha1]
      have lo : ∀ j, j < rsh.length → (gS rsp j).1 ≤ (gS rsp j).2 := fun j hj => by
        rw [hR.lenS] at hj
        have hk' := List.getElem?_eq_getElem hj
        rw [(hR.span _ _ hk').1]
        unfold spanP
        by_cases g12 : (row[j]).kind = 1 ∨ (row[j]).kind = 2
        · rw [ends_free (n := (row[j]).toV) g12 _ _ _ _ _ _ (0, 0) (0, 0)]
          exact spanE_le (hR.place hk') (0, 0) (0, 0)
        · have := (hR.ahead hk').a1 (by omega) (by omega)
          have hp2 := hR.place hk'
          rw [gD_take this] at hp2
          exact spanE_le hp2 _ _
      refine ends_tight hp (fun h1 h2 => ⟨sA.2.2, lo _ sA.1⟩) (fun h6 => ?_)
      have h6' : n.kind = 6 := h6
      have hb1 := hah.b1 h6'
      have sB := hSB h6'
      rw [hB h6', gS_take hb1]
      exact ⟨sB.2.2, lo _ sB.1⟩
end
abbrev KeepP (row : List NodeP) (need : Nat → Bool) (k : Nat) : Prop := need k = true ∨ (row.getD k nilP).kind = 1
structure CutAt (row : List NodeP) (rsh : List (List Int)) (rsp : List Sp) (need : Nat → Bool) (i : Nat) (r : List NodeP) (p : List Nat) : Prop where
  rest : cutL need (row.drop i) i (r, p) = cutL need row 0 ([], [])
  len : p.length = i
  few : r.length ≤ i
  at_ : ∀ k, k < i → KeepP row need k → r[p.getD k 0]? = some (movedP p (row.getD k nilP))
  inv : ∀ j, j < r.length → ∃ k, k < i ∧ KeepP row need k ∧ p.getD k 0 = j
  mono : ∀ j k, j < k → k < i → KeepP row need j → KeepP row need k → p.getD j 0 < p.getD k 0
  ok : ∃ rsh' rsp', RowOk r rsh' rsp' ∧ ∀ k, k < i → KeepP row need k → gD rsh' (p.getD k 0) = gD rsh k ∧ tight (gS rsp' (p.getD k 0)) (gS rsp k)
theorem getD_old {p : List Nat} {y k : Nat} (h : k < p.length) : (p ++ [y]).getD k 0 = p.getD k 0 := by
  rw [List.getD_eq_getElem?_getD, List.getD_eq_getElem?_getD, List.getElem?_append_left h]
theorem getD_new {p : List Nat} {y k : Nat} (h : k = p.length) : (p ++ [y]).getD k 0 = y := by
  subst h
  rw [List.getD_eq_getElem?_getD, List.getElem?_append_right (Nat.le_refl _), Nat.sub_self]; rfl
section
variable {row : List NodeP} {rsh : List (List Int)} {rsp : List Sp} {need : Nat → Bool}
theorem takes_a {n : NodeP} (h1 : n.kind ≠ 1) (h2 : n.kind ≠ 2) : n.a ∈ takesP n := by
  unfold takesP
  rw [if_neg (by omega)]
  split <;> simp
theorem takes_b {n : NodeP} (h6 : n.kind = 6) : n.b ∈ takesP n := by
  unfold takesP
  rw [if_neg (by omega), if_pos h6]; simp
theorem CutAt.steps (hR : RowOk row rsh rsp) (hcl : ∀ k, k < row.length → need k = true → ∀ t ∈ takesP (row.getD k nilP), need t.toNat = true) {i : Nat} {r : List NodeP} {p : List Nat} (h : CutAt row rsh rsp need i r p) (hi : i < row.length) : (KeepP row need i → CutAt row rsh rsp need (i + 1) (r ++ [movedP p (row.getD i nilP)]) (p ++ [r.length])) ∧ (¬ KeepP row need i → CutAt row rsh rsp need (i + 1) r (p ++ [0])) := by
  obtain ⟨h1, rfl, h3, h4, h5, h6, rsh', rsp', hR', h7⟩ := h
  have hp := getD_some hi
  have hah : ∀ k, k < row.length → AheadP (row.getD k nilP) k := fun k hk => hR.ahead (getD_some hk)
  have hrest := h1
  have hdr : row.drop p.length = row.getD p.length nilP :: row.drop (p.length + 1) := by
    rw [List.drop_eq_getElem_cons hi, List.getD_eq_getElem?_getD, List.getElem?_eq_getElem hi]; rfl
  rw [hdr, cutL_cons] at hrest
  have hms : ∀ k y, k < p.length → movedP (p ++ [y]) (row.getD k nilP) = movedP p (row.getD k nilP) := fun k y hk => moved_snoc ((hah k (by omega)).up (Nat.le_of_lt hk))
  refine ⟨fun hk => ?_, fun hk => ?_⟩
  · rw [if_pos hk] at hrest
    simp only at hrest
    have hlt : ∀ k, k < p.length → KeepP row need k → p.getD k 0 < r.length := fun k hk hq => (List.getElem?_eq_some_iff.1 (h4 k hk hq)).1
    have hkt : (row.getD p.length nilP).kind ≠ 1 → ∀ t ∈ takesP (row.getD p.length nilP), KeepP row need t.toNat := fun hne t ht => .inl (hcl _ hi (hk.resolve_right hne) t ht)
    have hai := hah _ hi
    have hl2 := hR'.lenS
    obtain ⟨hm, ht⟩ := moved_on (st := p) hR hR' hp
      (fun g1 g2 => by
        have ha := hai.a1 g1 g2
        have hq := hkt g1 _ (takes_a g1 g2)
        exact ⟨by rw [hl2]; exact hlt _ ha hq, (h7 _ ha hq).1, (h7 _ ha hq).2⟩)
      (fun g6 => by
        have hb := hai.b1 g6
        have hq := hkt (by omega) _ (takes_b g6)
        exact ⟨by rw [hl2]; exact hlt _ hb hq, (h7 _ hb hq).1, (h7 _ hb hq).2⟩)
    have hspn := (hR.span _ _ hp).2
    have hR2 := hR'.snoc hm (by unfold tight at ht; omega) (by unfold tight at ht; omega)
    have hl3 := hR'.lenP
    refine ⟨hrest, by simp, by simp; omega, fun k hk1 hk2 => ?_, fun j hj => ?_, fun j k hjk hk1 hj2 hk2 => ?_, _, _, hR2, fun k hk1 hk2 => ?_⟩
    · rcases Nat.lt_or_ge k p.length with hlk | hge
      · rw [getD_old hlk, hms k _ hlk, List.getElem?_append_left (hlt k hlk hk2)]
        exact h4 k hlk hk2
      · obtain rfl : k = p.length := by omega
        rw [getD_new rfl, List.getElem?_append_right (Nat.le_refl _), Nat.sub_self, moved_snoc hai]; rfl
    · rw [List.length_append, List.length_singleton] at hj
      rcases Nat.lt_or_ge j r.length with hlj | hge
      · obtain ⟨k, q1, q2, q3⟩ := h5 j hlj
        exact ⟨k, by omega, q2, by rw [getD_old q1]; exact q3⟩
      · exact ⟨p.length, by omega, hk, by rw [getD_new rfl]; omega⟩
    · rcases Nat.lt_or_ge k p.length with hlk | hge
      · rw [getD_old hlk, getD_old (by omega)]
        exact h6 j k hjk hlk hj2 hk2
      · obtain rfl : k = p.length := by omega
        rw [getD_new rfl, getD_old hjk]
        exact hlt j hjk hj2
    · rcases Nat.lt_or_ge k p.length with hlk | hge
      · have hlr := hlt k hlk hk2
        rw [getD_old hlk, gD_left (by omega), gS_left (by omega)]
        exact h7 k hlk hk2
      · obtain rfl : k = p.length := by omega
        rw [getD_new rfl, gD_last (by omega), gS_last (by omega)]
        exact ⟨rfl, ht⟩
  · rw [if_neg hk] at hrest
    simp only at hrest
    have hne : ∀ k, k < p.length + 1 → KeepP row need k → k < p.length := fun k h1 h2 => by
      rcases Nat.lt_or_ge k p.length with h | h
      · exact h
      · obtain rfl : k = p.length := by omega
        exact absurd h2 hk
    refine ⟨hrest, by simp, by omega, fun k hk1 hk2 => ?_, fun j hj => ?_, fun j k hjk hk1 hj2 hk2 => ?_, rsh', rsp', hR', fun k hk1 hk2 => ?_⟩
    · have hlk := hne k hk1 hk2
      rw [getD_old hlk, hms k _ hlk]
      exact h4 k hlk hk2
    · obtain ⟨k, q1, q2, q3⟩ := h5 j hj
      exact ⟨k, by omega, q2, by rw [getD_old q1]; exact q3⟩
    · have hlk := hne k hk1 hk2
      rw [getD_old hlk, getD_old (by omega)]
      exact h6 j k hjk hlk hj2 hk2
    · have hlk := hne k hk1 hk2
      rw [getD_old hlk]
      exact h7 k hlk hk2
theorem CutAt.step (hR : RowOk row rsh rsp) (hcl : ∀ k, k < row.length → need k = true → ∀ t ∈ takesP (row.getD k nilP), need t.toNat = true) {i : Nat} {r : List NodeP} {p : List Nat} (h : CutAt row rsh rsp need i r p) (hi : i < row.length) : ∃ r' p', CutAt row rsh rsp need (i + 1) r' p' := by
  by_cases hk : KeepP row need i
  · exact ⟨_, _, (h.steps hR hcl hi).1 hk⟩
  · exact ⟨_, _, (h.steps hR hcl hi).2 hk⟩
theorem cut_to (hR : RowOk row rsh rsp) (hcl : ∀ k, k < row.length → need k = true → ∀ t ∈ takesP (row.getD k nilP), need t.toNat = true) : ∀ i, i ≤ row.length → ∃ r p, CutAt row rsh rsp need i r p
  | 0, _ => ⟨[], [], rfl, rfl, Nat.le_refl _, fun k hk => absurd hk (Nat.not_lt_zero _), fun j hj => absurd hj (Nat.not_lt_zero _), fun j k _ hk => absurd hk (Nat.not_lt_zero _), [], [], RowOk.nil, fun k hk => absurd hk (Nat.not_lt_zero _)⟩
  | i + 1, hi => by
    obtain ⟨r, p, h⟩ := cut_to hR hcl i (by omega)
    exact h.step hR hcl (by omega)
theorem cut_at (hR : RowOk row rsh rsp) (hcl : ∀ k, k < row.length → need k = true → ∀ t ∈ takesP (row.getD k nilP), need t.toNat = true) : CutAt row rsh rsp need row.length (cutL need row 0 ([], [])).1 (cutL need row 0 ([], [])).2 := by
  obtain ⟨r, p, h⟩ := cut_to hR hcl row.length (Nat.le_refl _)
  have e := h.rest
  rw [List.drop_length] at e
  have e : (r, p) = cutL need row 0 ([], []) := e
  rw [← e]; exact h
end
end Go.Proofs.Ytdmkdogakbipbaa

/- OC -/
namespace Go.Proofs.Ytdmkdogakbipbaa
open Go.SX Go.RowKit
section
variable {row : List NodeP} {rsh : List (List Int)} {rsp : List Sp} {need : Nat → Bool} {r : List NodeP} {p : List Nat}
theorem CutAt.get (h : CutAt row rsh rsp need row.length r p) {k : Nat} (hk : k < row.length) (hq : KeepP row need k) : p.getD k 0 < r.length ∧ r.getD (p.getD k 0) nilP = movedP p (row.getD k nilP) := by
  have := h.at_ k hk hq
  refine ⟨(List.getElem?_eq_some_iff.1 this).1, ?_⟩
  rw [List.getD_eq_getElem?_getD, this]; rfl
theorem CutAt.back (h : CutAt row rsh rsp need row.length r p) {j : Nat} {m : NodeP} (hm : r[j]? = some m) : ∃ k, k < row.length ∧ KeepP row need k ∧ p.getD k 0 = j ∧ m = movedP p (row.getD k nilP) := by
  obtain ⟨k, h1, h2, h3⟩ := h.inv j (List.getElem?_eq_some_iff.1 hm).1
  have := h.at_ k h1 h2
  rw [h3, hm] at this
  exact ⟨k, h1, h2, h3, by simpa using this⟩
theorem CutAt.inj (h : CutAt row rsh rsp need row.length r p) {j k : Nat} (hj : j < row.length) (hk : k < row.length) (hqj : KeepP row need j) (hqk : KeepP row need k) (e : p.getD j 0 = p.getD k 0) : j = k := by
  rcases Nat.lt_trichotomy j k with hlt | he | hgt
  · have := h.mono j k hlt hk hqj hqk; omega
  · exact he
  · have := h.mono k j hgt hj hqk hqj; omega
theorem keep_takes (hcl : ∀ k, k < row.length → need k = true → ∀ t ∈ takesP (row.getD k nilP), need t.toNat = true) {k : Nat} (hk : k < row.length) (hq : KeepP row need k) (h1 : (row.getD k nilP).kind ≠ 1) {t : Int} (ht : t ∈ takesP (row.getD k nilP)) : KeepP row need t.toNat := .inl (hcl k hk (hq.resolve_right h1) t ht)
theorem cut_neat (hR : RowOk row rsh rsp) (hN : Neat row) (hcl : ∀ k, k < row.length → need k = true → ∀ t ∈ takesP (row.getD k nilP), need t.toNat = true) (h : CutAt row rsh rsp need row.length r p) : Neat r := by
  have hah : ∀ k, k < row.length → AheadP (row.getD k nilP) k := fun k hk => hR.ahead (getD_some hk)
  refine ⟨fun j m hm => ?_, fun j1 j2 m hj h1 h2 => ?_⟩
  · obtain ⟨k, hk, hq, hpk, rfl⟩ := h.back hm
    have hn := hN.known k _ (getD_some hk)
    have hai := hah k hk
    have hkt := fun t ht h1 => keep_takes (t := t) hcl hk hq h1 ht
    generalize row.getD k nilP = q at *
    obtain ⟨_, ek, ea, _, eb, _⟩ := moved_eq p q
    unfold knownP constAt at hn ⊢
    rw [ek]
    by_cases h12 : q.kind = 1 ∨ q.kind = 2
    · rw [decide_eq_true h12]; rfl
    · have key : ∀ t, t.toNat < k → t ∈ takesP q → (r.getD (p.getD t.toNat 0) nilP).kind = (row.getD t.toNat nilP).kind := fun t h1 h2 => by
        rw [(h.get (by omega) (hkt t h2 (by omega))).2]
        exact (moved_eq p _).2.1
      have eA : (r.getD (movedP p q).a.toNat nilP).kind = (row.getD q.a.toNat nilP).kind := by
        rw [ea (by omega) (by omega), Int.toNat_natCast]
        exact key q.a (hai.a1 (by omega) (by omega)) (takes_a (by omega) (by omega))
      rw [eA]
      by_cases h6 : q.kind = 6
      · have eB : (r.getD (movedP p q).b.toNat nilP).kind = (row.getD q.b.toNat nilP).kind := by
          rw [eb h6, Int.toNat_natCast]
          exact key q.b (hai.b1 h6) (takes_b h6)
        rw [eB]; exact hn
      · rw [decide_eq_true (show q.kind ≠ 6 from h6), Bool.true_or] at hn ⊢
        exact hn
  · obtain ⟨k1, hk1, hq1, hp1, e1⟩ := h.back h1
    obtain ⟨k2, hk2, hq2, hp2, e2⟩ := h.back h2
    have hne : k1 ≠ k2 := fun e => by subst e; omega
    have hsame : row.getD k1 nilP = row.getD k2 nilP := by
      have hai1 := hah k1 hk1
      have hai2 := hah k2 hk2
      have hkt1 := fun t ht h1 => keep_takes (t := t) hcl hk1 hq1 h1 ht
      have hkt2 := fun t ht h1 => keep_takes (t := t) hcl hk2 hq2 h1 ht
      have e : movedP p (row.getD k1 nilP) = movedP p (row.getD k2 nilP) := by rw [← e1, e2]
      generalize row.getD k1 nilP = q1 at *
      generalize row.getD k2 nilP = q2 at *
      have hkk : q1.kind = q2.kind := by rw [← (moved_eq p q1).2.1, ← (moved_eq p q2).2.1, e]
      have a1 := hai1.a0
      have a2 := hai2.a0
      have b1 := hai1.b0
      have b2 := hai2.b0
      have hinj : ∀ t1 t2 : Int, 0 ≤ t1 → 0 ≤ t2 → t1.toNat < k1 → t2.toNat < k2 → t1 ∈ takesP q1 → t2 ∈ takesP q2 → q1.kind ≠ 1 → p.getD t1.toNat 0 = p.getD t2.toNat 0 → t1 = t2 := fun t1 t2 g1 g2 g3 g4 g5 g6 g7 g8 => by
        have := h.inj (by omega) (by omega) (hkt1 t1 g5 g7) (hkt2 t2 g6 (by omega)) g8
        omega
      have ee := e
      unfold movedP at ee
      by_cases h12 : q1.kind = 1 ∨ q1.kind = 2
      · rw [if_pos h12, if_pos (show q2.kind = 1 ∨ q2.kind = 2 by omega)] at ee; exact ee
      · rw [if_neg h12, if_neg (show ¬ (q2.kind = 1 ∨ q2.kind = 2) by omega)] at ee
        by_cases h6 : q1.kind = 6
        · rw [if_pos h6, if_pos (show q2.kind = 6 by omega)] at ee
          simp only [NodeP.mk.injEq] at ee
          obtain ⟨c1, c2, c3, c4, c5, c6, c7, c8, c9⟩ := ee
          have ga := hinj q1.a q2.a a1 a2 (hai1.a1 (by omega) (by omega)) (hai2.a1 (by omega) (by omega)) (takes_a (by omega) (by omega)) (takes_a (by omega) (by omega)) (by omega) (by omega)
          have gb := hinj q1.b q2.b b1 b2 (hai1.b1 h6) (hai2.b1 (by omega)) (takes_b h6) (takes_b (by omega)) (by omega) (by omega)
          cases q1; cases q2; simp only at *; subst_vars; rfl
        · rw [if_neg h6, if_neg (show ¬ q2.kind = 6 by omega)] at ee
          simp only [NodeP.mk.injEq] at ee
          obtain ⟨c1, c2, c3, c4, c5, c6, c7, c8, c9⟩ := ee
          have ga := hinj q1.a q2.a a1 a2 (hai1.a1 (by omega) (by omega)) (hai2.a1 (by omega) (by omega)) (takes_a (by omega) (by omega)) (takes_a (by omega) (by omega)) (by omega) (by omega)
          cases q1; cases q2; simp only at *; subst_vars; rfl
    have g1 := getD_some hk1
    have g2 := getD_some hk2
    rw [← hsame] at g2
    have hkind : (row.getD k1 nilP).kind = 1 := by
      rcases Nat.lt_or_gt_of_ne hne with hlt | hgt
      · exact hN.once k1 k2 _ hlt g1 g2
      · exact hN.once k2 k1 _ hgt g2 g1
    rw [e1, (moved_eq p _).2.1]; exact hkind
theorem takes_moved {q : NodeP} {t : Int} (ht : t ∈ takesP q) : ((p.getD t.toNat 0 : Nat) : Int) ∈ takesP (movedP p q) := by
  unfold takesP at ht
  split at ht
  · simp at ht
  · rename_i h12
    split at ht
    · rename_i h6
      have e : movedP p q = { q with a := p.getD q.a.toNat 0, b := p.getD q.b.toNat 0 } := by unfold movedP; rw [if_neg h12, if_pos h6]
      rw [e]
      unfold takesP
      rw [if_neg h12, if_pos h6]
      simp only [List.mem_cons, List.not_mem_nil, or_false] at ht ⊢
      rcases ht with rfl | rfl
      · exact .inl rfl
      · exact .inr rfl
    · rename_i h6
      have e : movedP p q = { q with a := p.getD q.a.toNat 0 } := by unfold movedP; rw [if_neg h12, if_neg h6]
      rw [e]
      unfold takesP
      rw [if_neg h12, if_neg h6]
      simp only [List.mem_singleton] at ht ⊢
      rw [ht]
end
theorem need_closed {row : List NodeP} {rsh : List (List Int)} {rsp : List Sp} {out : Nat} (hR : RowOk row rsh rsp) (ho : out < row.length) : ∀ k, k < row.length → needB row out k = true → ∀ t ∈ takesP (row.getD k nilP), needB row out t.toNat = true := fun k _ hk t ht =>
  (need_reach hR.aheads ho _).2 (.step ((need_reach hR.aheads ho k).1 hk) ht)
theorem reach_lt {row : List NodeP} {rsh : List (List Int)} {rsp : List Sp} {out k : Nat} (hR : RowOk row rsh rsp) (ho : out < row.length) (h : Reach row out k) : k < row.length := by
  induction h with
  | refl => exact ho
  | step _ ht ih =>
    have := takes_lt (hR.ahead (getD_some ih)) _ ht
    omega
/-- the tidied graph is a graph, and tidied it is itself -/
theorem tidyP_again {l : List NodeP} {sh : List (List Int)} {sp : List Sp} (hL : RowOk l sh sp) {out : Nat} (ho : out < l.length) : ∃ rsh rsp, RowOk (tidyP l sh out).1 rsh rsp ∧ (tidyP l sh out).2 < (tidyP l sh out).1.length ∧ (tidyP l sh out).1.length ≤ l.length ∧ tidyP (tidyP l sh out).1 rsh (tidyP l sh out).2 = tidyP l sh out := by
  obtain ⟨row, st, hT, hN⟩ := tidy_neat hL l.length (Nat.le_refl _)
  have hd := hT.done
  have hfew := hT.few
  have hlen := hT.len
  obtain ⟨rsh, rsp, hR, hS⟩ := hT.ok
  have hout : st.getD out 0 < row.length := by have := hS.lt out (by omega); rwa [hR.lenS] at this
  have hcl := need_closed hR hout
  have hC := cut_at (rsh := rsh) (rsp := rsp) hR hcl
  have hno : KeepP row (needB row (st.getD out 0)) (st.getD out 0) := .inl ((need_reach hR.aheads hout _).2 (.refl _))
  have e : tidyP l sh out = ((cutL (needB row (st.getD out 0)) row 0 ([], [])).1, (cutL (needB row (st.getD out 0)) row 0 ([], [])).2.getD (st.getD out 0) 0) := by unfold tidyP; rw [hd]
  rw [e]
  simp only
  generalize hx : cutL (needB row (st.getD out 0)) row 0 ([], []) = x at *
  obtain ⟨r, p⟩ := x
  simp only at hC ⊢
  generalize st.getD out 0 = o at *
  have hNr := cut_neat hR hN hcl hC
  obtain ⟨rsh', rsp', hR', h7⟩ := hC.ok
  obtain ⟨hpo, _⟩ := hC.get hout hno
  refine ⟨rsh', rsp', hR', hpo, Nat.le_trans hC.few hfew, tidyP_self hR' hNr hpo fun j m hm => ?_⟩
  obtain ⟨k, hk, hq, hpk, hmk⟩ := hC.back hm
  rcases hq with hq | hq
  · left
    rw [need_reach hR'.aheads hpo, ← hpk]
    have hr := (need_reach hR.aheads hout k).1 hq
    clear hq hpk hk hmk hm
    induction hr with
    | refl => exact .refl _
    | step hrj ht ih =>
      rename_i j' t'
      have hj := reach_lt hR hout hrj
      have hkj : KeepP row (needB row o) j' := .inl ((need_reach hR.aheads hout _).2 hrj)
      have hg := (hC.get hj hkj).2
      have := Reach.step ih (t := ((p.getD t'.toNat 0 : Nat) : Int)) (by rw [hg]; exact takes_moved ht)
      rw [Int.toNat_natCast] at this
      exact this
  · right
    rw [hmk, (moved_eq p _).2.1]; exact hq
end Go.Proofs.Ytdmkdogakbipbaa

/- PA -/
namespace Go.Proofs.Ytdmkdogakbipbaa
open Go.SX Go.RowKit
def inOk (s : List Int) (n : NodeV) (x : List Int) : Prop := (x.length : Int) = entries s ∧ n.lo ≤ foldI min x ∧ foldI max x ≤ n.hi
inductive RunQ (sh : List (List Int)) : List NodeV → List (List Int) → List (List Int) → List (List Int) → Prop
  | nil (known : List (List Int)) : RunQ sh [] known [] []
  | num {n : NodeV} {r : List NodeV} {known inp q : List (List Int)} (hk : n.kind ≠ 1) (h : RunQ sh r (known ++ [numsAt sh n known]) inp q) : RunQ sh (n :: r) known inp (numsAt sh n known :: q)
  | inp {n : NodeV} {r : List NodeV} {known xs q : List (List Int)} {x : List Int} (hk : n.kind = 1) (hx : inOk (sh.getD known.length []) n x) (h : RunQ sh r (known ++ [x]) xs q) : RunQ sh (n :: r) known (x :: xs) (x :: q)
theorem RunQ.len {sh : List (List Int)} {l : List NodeV} {known inp q : List (List Int)} (h : RunQ sh l known inp q) : q.length = l.length := by
  induction h with
  | nil => rfl
  | num _ _ ih => simp [ih]
  | inp _ _ _ ih => simp [ih]
theorem RunQ.split {sh : List (List Int)} : ∀ {a b : List NodeV} {known inp q : List (List Int)}, RunQ sh (a ++ b) known inp q → ∃ i1 i2 q1 q2, inp = i1 ++ i2 ∧ q = q1 ++ q2 ∧ RunQ sh a known i1 q1 ∧ RunQ sh b (known ++ q1) i2 q2
  | [], b, known, ip, q, h => ⟨[], ip, [], q, rfl, rfl, .nil known, by rw [List.append_nil]; exact h⟩
  | n :: a, b, known, ip, q, h => by
    cases h with
    | num hk h =>
      obtain ⟨i1, i2, q1, q2, e1, e2, g1, g2⟩ := RunQ.split (a := a) h
      exact ⟨i1, i2, _ :: q1, q2, e1, by rw [e2]; rfl, .num hk g1, by rw [List.append_assoc] at g2; exact g2⟩
    | inp hk hx h =>
      obtain ⟨i1, i2, q1, q2, e1, e2, g1, g2⟩ := RunQ.split (a := a) h
      exact ⟨_ :: i1, i2, _ :: q1, q2, by rw [e1]; rfl, by rw [e2]; rfl, .inp hk hx g1, by rw [List.append_assoc] at g2; exact g2⟩
theorem RunQ.join {sh : List (List Int)} {a b : List NodeV} {known i1 i2 q1 q2 : List (List Int)} (h1 : RunQ sh a known i1 q1) (h2 : RunQ sh b (known ++ q1) i2 q2) : RunQ sh (a ++ b) known (i1 ++ i2) (q1 ++ q2) := by
  induction h1 with
  | nil known => rw [List.append_nil] at h2; exact h2
  | num hk h ih => exact .num hk (ih (by rw [List.append_assoc]; exact h2))
  | inp hk hx h ih => exact .inp hk hx (ih (by rw [List.append_assoc]; exact h2))
/-- more shapes behind -/
theorem RunQ.wide {sh sh' : List (List Int)} {l : List NodeV} {known inp q : List (List Int)} (h : RunQ sh l known inp q) (hs : ∀ k, k < known.length + l.length → sh'.getD k [] = sh.getD k []) (ha : ∀ (k : Nat) n, l[k]? = some n → AheadP n.pl (known.length + k)) : RunQ sh' l known inp q := by
  induction h with
  | nil known => exact .nil known
  | @num n r known inp q hk h ih =>
    have hah := ha 0 n rfl
    have e : numsAt sh n known = numsAt sh' n known := by
      unfold numsAt
      rw [hs known.length (by simp)]
      by_cases h2 : n.kind = 2
      · unfold numsA
        rw [if_neg (by unfold isLin; omega), if_neg (by unfold isLin; omega)]
      · rw [hs n.a.toNat (by
          have := hah.a1 hk h2
          rw [show n.pl.a = n.a from rfl] at this
          simp only [List.length_cons]
          omega)]
    have hi := ih (fun k hk => hs k (by simp only [List.length_append, List.length_cons, List.length_nil] at hk ⊢; omega)) (fun k m hm => by
      have := ha (k + 1) m hm
      rw [List.length_append, List.length_singleton, show known.length + 1 + k = known.length + (k + 1) by omega]; exact this)
    rw [e] at hi ⊢
    exact .num hk hi
  | @inp n r known xs q x hk hx h ih =>
    have hi := ih (fun k hk => hs k (by simp only [List.length_append, List.length_cons, List.length_nil] at hk ⊢; omega)) (fun k m hm => by
      have := ha (k + 1) m hm
      rw [List.length_append, List.length_singleton, show known.length + 1 + k = known.length + (k + 1) by omega]; exact this)
    exact .inp hk (by rw [hs known.length (by simp)]; exact hx) hi
end Go.Proofs.Ytdmkdogakbipbaa

/- PB -/
namespace Go.Proofs.Ytdmkdogakbipbaa
open Go.SX Go.RowKit
theorem RunQ.val {sh : List (List Int)} {l : List NodeV} {ip q : List (List Int)} (h : RunQ sh l [] ip q) {k : Nat} {n : NodeV} (hn : l[k]? = some n) (hk : n.kind ≠ 1) : q.getD k [] = numsAt sh n (q.take k) := by
  have hkl := (List.getElem?_eq_some_iff.1 hn).1
  have e : l = l.take k ++ n :: l.drop (k + 1) := by
    have h1 := List.drop_eq_getElem_cons hkl
    have h2 : l[k] = n := by rw [List.getElem?_eq_getElem hkl] at hn; simpa using hn
    rw [← h2, ← h1, List.take_append_drop]
  rw [e] at h
  obtain ⟨i1, i2, q1, q2, rfl, rfl, g1, g2⟩ := h.split
  have hl1 := g1.len
  rw [List.length_take, Nat.min_eq_left (by omega)] at hl1
  cases g2 with
  | num _ g2 =>
    rw [List.take_left' hl1, List.getD_eq_getElem?_getD, List.getElem?_append_right (by omega), hl1, Nat.sub_self]
    rfl
  | inp hk1 _ _ => exact absurd hk1 hk
end Go.Proofs.Ytdmkdogakbipbaa

/- PC -/
namespace Go.Proofs.Ytdmkdogakbipbaa
open Go.SX Go.RowKit
theorem nums_two {n : NodeV} (h2 : n.kind = 2) (cnt : Nat) (t t' a a' b b' : List Int) : numsA n cnt t a b = numsA n cnt t' a' b' := by
  unfold numsA
  rw [if_neg (by unfold isLin; omega), if_neg (by unfold isLin; omega)]
  unfold numsL numAt
  simp only [if_pos h2]
section
variable {sh rsh : List (List Int)} {sp rsp : List Sp} {st : List Nat} {n : NodeP} {V W : List (List Int)} {row : List NodeP}
theorem moved_nums (hS : Std sh sp rsh rsp st) (hah : AheadP n st.length) (hVW : ∀ k, k < st.length → W.getD (st.getD k 0) [] = V.getD k []) (h1 : n.kind ≠ 1) (cnt : Nat) :
    numsA (movedP st n).toV cnt (gD rsh (movedP st n).a.toNat) (W.getD (movedP st n).a.toNat []) (W.getD (movedP st n).b.toNat []) = numsA n.toV cnt (gD sh n.a.toNat) (V.getD n.a.toNat []) (V.getD n.b.toNat []) := by
  obtain ⟨e0, ek, ea, _, eb, _⟩ := moved_eq st n
  rw [e0, nums_move]
  by_cases h2 : n.kind = 2
  · exact nums_two (n := n.toV) h2 _ _ _ _ _ _ _
  · have ha := hah.a1 h1 h2
    rw [ea h1 h2, Int.toNat_natCast, hS.sh _ ha, hVW _ ha]
    by_cases h6 : n.kind = 6
    · have hb := hah.b1 h6
      rw [eb h6, Int.toNat_natCast, hVW _ hb]
    · exact nums_freeB (n := n.toV) h6 _ _ _ _ _
theorem fold_nums (hR : RowOk row rsh rsp) {s : List Int} (hm : NodeIn (movedP st n).toV rsh s) (hW : ∀ k, k < row.length → (row.getD k nilP).kind = 2 → W.getD k [] = (row.getD k nilP).data) :
    numsA (foldP s row (movedP st n)).toV (entries s).toNat (gD rsh (foldP s row (movedP st n)).a.toNat) (W.getD (foldP s row (movedP st n)).a.toNat []) (W.getD (foldP s row (movedP st n)).b.toNat []) = numsA (movedP st n).toV (entries s).toNat (gD rsh (movedP st n).a.toNat) (W.getD (movedP st n).a.toNat []) (W.getD (movedP st n).b.toNat []) := by
  unfold foldP
  by_cases hk : knownP row (movedP st n) = true
  · rw [if_pos hk]
    have hK := known_in hR hm hk
    have hl := (numsP_in hR hm hK).2
    have hpos := shape_good (formed_of hm.form) hR.pos hm.shape rfl
    have e1 : ∀ t a b, numsA (NodeP.toV ⟨2, 0, 0, s, 0, 0, 0, numsP s row (movedP st n), []⟩) (entries s).toNat t a b = numsP s row (movedP st n) := fun t a b => by
      have h := const_nums (p := ⟨2, 0, 0, s, 0, 0, 0, numsP s row (movedP st n), []⟩) (sh := [s]) (known := []) rfl (by show ((numsP s row (movedP st n)).length : Int) = entries s; rw [hl]; omega) rfl
      unfold numsAt at h
      exact (nums_two (n := NodeP.toV ⟨2, 0, 0, s, 0, 0, 0, numsP s row (movedP st n), []⟩) rfl _ t _ a _ b _).trans h
    rw [e1]
    unfold numsP
    rw [hK.aSh, hW _ hK.aLt hK.aK]
    by_cases h6 : (movedP st n).kind = 6
    · rw [if_pos h6, hW _ (hK.bLt h6) (hK.bK h6)]
    · rw [if_neg h6]
      exact nums_freeB (n := (movedP st n).toV) h6 _ _ _ _ _
  · rw [if_neg hk]
end
end Go.Proofs.Ytdmkdogakbipbaa

/- PD -/
namespace Go.Proofs.Ytdmkdogakbipbaa
open Go.SX Go.RowKit
structure RunAt (l : List NodeP) (sh : List (List Int)) (sp : List Sp) (inp V : List (List Int)) (i : Nat) (row : List NodeP) (st : List Nat) (rsh : List (List Int)) (rsp : List Sp) (ip W : List (List Int)) : Prop where
  at_ : TidyAt l sh sp i row st
  ok : RowOk row rsh rsp
  std : Std sh sp rsh rsp st
  run : RunQ rsh (row.map NodeP.toV) [] ip W
  rest : ∃ ip2, inp = ip ++ ip2 ∧ RunQ sh ((l.drop i).map NodeP.toV) (V.take i) ip2 (V.drop i)
  vals : ∀ k, k < i → W.getD (st.getD k 0) [] = V.getD k []
theorem vals_const {row : List NodeP} {rsh : List (List Int)} {rsp : List Sp} {ip W : List (List Int)} (hR : RowOk row rsh rsp) (h : RunQ rsh (row.map NodeP.toV) [] ip W) {k : Nat} (hk : k < row.length) (h2 : (row.getD k nilP).kind = 2) : W.getD k [] = (row.getD k nilP).data := by
  have hg : (row.map NodeP.toV)[k]? = some (row.getD k nilP).toV := by rw [List.getElem?_map, getD_some hk]; rfl
  have hne : (row.getD k nilP).toV.kind ≠ 1 := by
    show (row.getD k nilP).kind ≠ 1
    omega
  rw [h.val hg hne]
  obtain ⟨c1, c2, _⟩ := const_at hR hk h2
  have hl := h.len
  rw [List.length_map] at hl
  refine const_nums h2 c2 ?_
  rw [List.length_take, Nat.min_eq_left (by omega)]
  exact c1
/-- the numbers of a node of the row -/
theorem vals_at {row : List NodeP} {rsh : List (List Int)} {rsp : List Sp} {ip W : List (List Int)} (hR : RowOk row rsh rsp) (h : RunQ rsh (row.map NodeP.toV) [] ip W) {k : Nat} {m : NodeP} (hm : row[k]? = some m) (h1 : m.kind ≠ 1) : W.getD k [] = numsA m.toV (entries (gD rsh k)).toNat (gD rsh m.a.toNat) (W.getD m.a.toNat []) (W.getD m.b.toNat []) := by
  have hk := (List.getElem?_eq_some_iff.1 hm).1
  have hg : (row.map NodeP.toV)[k]? = some m.toV := by rw [List.getElem?_map, hm]; rfl
  have hne : m.toV.kind ≠ 1 := h1
  rw [h.val hg hne]
  have hl := h.len
  rw [List.length_map] at hl
  have hah := hR.ahead hm
  unfold numsAt
  rw [List.length_take, Nat.min_eq_left (by omega)]
  have ht : ∀ j, j < k → (W.take k).getD j [] = W.getD j [] := fun j hj => by
    rw [List.getD_eq_getElem?_getD, List.getD_eq_getElem?_getD, List.getElem?_take_of_lt hj]
  by_cases h2 : m.kind = 2
  · exact nums_two (n := m.toV) h2 _ _ _ _ _ _ _
  · have ea : m.toV.a = m.a := rfl
    have eb : m.toV.b = m.b := rfl
    rw [ea, eb, ht _ (hah.a1 h1 h2)]
    by_cases h6 : m.kind = 6
    · rw [ht _ (hah.b1 h6)]
    · exact nums_freeB (n := m.toV) h6 _ _ _ _ _
end Go.Proofs.Ytdmkdogakbipbaa

/- PE -/
namespace Go.Proofs.Ytdmkdogakbipbaa
open Go.SX Go.RowKit
theorem fold_kind {s : List Int} {row : List NodeP} {st : List Nat} {n : NodeP} : (foldP s row (movedP st n)).kind = 1 ↔ n.kind = 1 := by
  have ek := (moved_eq st n).2.1
  unfold foldP
  by_cases hk : knownP row (movedP st n) = true
  · rw [if_pos hk]
    constructor
    · intro h; exact absurd (show (2 : Int) = 1 from h) (by decide)
    · intro h
      unfold knownP at hk
      rw [ek, decide_eq_true (.inl h)] at hk
      simp at hk
  · rw [if_neg hk, ek]
theorem fold_input {s : List Int} {row : List NodeP} {st : List Nat} {n : NodeP} (h : n.kind = 1) : foldP s row (movedP st n) = n := by
  have e : movedP st n = n := by unfold movedP; rw [if_pos (.inl h)]
  rw [e]
  unfold foldP
  rw [if_neg]
  unfold knownP
  rw [decide_eq_true (.inl h)]; simp
theorem getL_old {p : List (List Int)} {y : List Int} {k : Nat} (h : k < p.length) : (p ++ [y]).getD k [] = p.getD k [] := by
  rw [List.getD_eq_getElem?_getD, List.getD_eq_getElem?_getD, List.getElem?_append_left h]
theorem getL_new {p : List (List Int)} {y : List Int} {k : Nat} (h : k = p.length) : (p ++ [y]).getD k [] = y := by
  subst h
  rw [List.getD_eq_getElem?_getD, List.getElem?_append_right (Nat.le_refl _), Nat.sub_self]; rfl
/-- a row one longer -/
theorem RunQ.snoc_num {row : List NodeP} {rsh : List (List Int)} {rsp : List Sp} {ip W : List (List Int)} (hR : RowOk row rsh rsp) (h : RunQ rsh (row.map NodeP.toV) [] ip W) {m : NodeP} (hm : AheadP m row.length) (h1 : m.kind ≠ 1) (s : List Int) : RunQ (rsh ++ [s]) ((row ++ [m]).map NodeP.toV) [] ip (W ++ [numsA m.toV (entries s).toNat (gD rsh m.a.toNat) (W.getD m.a.toNat []) (W.getD m.b.toNat [])]) := by
  have hl := h.len
  rw [List.length_map] at hl
  have hw := h.wide (sh' := rsh ++ [s]) (fun k hk => gD_left (by rw [hR.lenS]; simpa using hk)) (fun k n hn => by
    rw [List.getElem?_map] at hn
    cases hr : row[k]? with
    | none => rw [hr] at hn; simp at hn
    | some p =>
      rw [hr] at hn
      simp only [Option.map_some, Option.some.injEq] at hn
      subst hn
      rw [List.length_nil, Nat.zero_add]
      exact hR.ahead hr)
  have e : numsAt (rsh ++ [s]) m.toV W = numsA m.toV (entries s).toNat (gD rsh m.a.toNat) (W.getD m.a.toNat []) (W.getD m.b.toNat []) := by
    unfold numsAt
    rw [show (rsh ++ [s]).getD W.length [] = s from gD_last (by rw [hR.lenS]; exact hl)]
    by_cases h2 : m.kind = 2
    · exact nums_two (n := m.toV) h2 _ _ _ _ _ _ _
    · rw [show (rsh ++ [s]).getD m.toV.a.toNat [] = gD rsh m.a.toNat from gD_left (by rw [hR.lenS]; exact hm.a1 h1 h2)]
      rfl
  rw [← e, List.map_append, ← List.append_nil ip]
  exact hw.join (.num (show m.toV.kind ≠ 1 from h1) (.nil _))
theorem RunQ.snoc_inp {row : List NodeP} {rsh : List (List Int)} {rsp : List Sp} {ip W : List (List Int)} (hR : RowOk row rsh rsp) (h : RunQ rsh (row.map NodeP.toV) [] ip W) {m : NodeP} {x s : List Int} (h1 : m.kind = 1) (hx : inOk s m.toV x) : RunQ (rsh ++ [s]) ((row ++ [m]).map NodeP.toV) [] (ip ++ [x]) (W ++ [x]) := by
  have hl := h.len
  rw [List.length_map] at hl
  have hw := h.wide (sh' := rsh ++ [s]) (fun k hk => gD_left (by rw [hR.lenS]; simpa using hk)) (fun k n hn => by
    rw [List.getElem?_map] at hn
    cases hr : row[k]? with
    | none => rw [hr] at hn; simp at hn
    | some p =>
      rw [hr] at hn
      simp only [Option.map_some, Option.some.injEq] at hn
      subst hn
      rw [List.length_nil, Nat.zero_add]
      exact hR.ahead hr)
  rw [List.map_append]
  refine hw.join (.inp (show m.toV.kind = 1 from h1) ?_ (.nil _))
  rw [List.nil_append, show (rsh ++ [s]).getD W.length [] = s from gD_last (by rw [hR.lenS]; exact hl)]
  exact hx
end Go.Proofs.Ytdmkdogakbipbaa

/- PF -/
namespace Go.Proofs.Ytdmkdogakbipbaa
open Go.SX Go.RowKit
theorem drop_map {l : List NodeP} {i : Nat} {n : NodeP} (hn : l[i]? = some n) : (l.drop i).map NodeP.toV = n.toV :: (l.drop (i + 1)).map NodeP.toV := by
  have hil := (List.getElem?_eq_some_iff.1 hn).1
  rw [List.drop_eq_getElem_cons hil, List.map_cons]
  rw [List.getElem?_eq_getElem hil] at hn
  rw [Option.some.inj hn]
theorem take_snocL {V : List (List Int)} {i : Nat} (h : i < V.length) : V.take (i + 1) = V.take i ++ [V.getD i []] := by
  rw [List.take_add_one, List.getD_eq_getElem?_getD, List.getElem?_eq_getElem h]; rfl
theorem drop_consL {V : List (List Int)} {i : Nat} (h : i < V.length) : V.drop i = V.getD i [] :: V.drop (i + 1) := by
  rw [List.drop_eq_getElem_cons h, List.getD_eq_getElem?_getD, List.getElem?_eq_getElem h]; rfl
theorem getL_take {V : List (List Int)} {i k : Nat} (h : k < i) : (V.take i).getD k [] = V.getD k [] := gD_take h
theorem RunQ.head_num {sh : List (List Int)} {n : NodeV} {r : List NodeV} {known ip q : List (List Int)} {v : List Int} (h : RunQ sh (n :: r) known ip (v :: q)) (hk : n.kind ≠ 1) : v = numsAt sh n known ∧ RunQ sh r (known ++ [v]) ip q := by
  cases h with
  | num _ h => exact ⟨rfl, h⟩
  | inp h1 _ _ => exact absurd h1 hk
theorem RunQ.head_inp {sh : List (List Int)} {n : NodeV} {r : List NodeV} {known ip q : List (List Int)} {v : List Int} (h : RunQ sh (n :: r) known ip (v :: q)) (hk : n.kind = 1) : ∃ xs, ip = v :: xs ∧ inOk (sh.getD known.length []) n v ∧ RunQ sh r (known ++ [v]) xs q := by
  cases h with
  | num h1 _ => exact absurd hk h1
  | inp _ hx h => exact ⟨_, rfl, hx, h⟩
theorem Std.old {sh rsh : List (List Int)} {sp rsp : List Sp} {st : List Nat} (h : Std sh sp rsh rsp st) {k : Nat} (hk : k < rsh.length) (e1 : gD rsh k = gD sh st.length) (e2 : tight (gS rsp k) (gS sp st.length)) : Std sh sp rsh rsp (st ++ [k]) := by
  refine ⟨fun j hj => ?_, fun j hj => ?_, fun j hj => ?_⟩
  all_goals
    rw [List.length_append, List.length_singleton] at hj
    rcases Nat.lt_or_ge j st.length with hlt | hge
  · rw [getD_old hlt]; exact h.lt j hlt
  · obtain rfl : j = st.length := by omega
    rw [getD_new rfl]; exact hk
  · rw [getD_old hlt]; exact h.sh j hlt
  · obtain rfl : j = st.length := by omega
    rw [getD_new rfl]; exact e1
  · rw [getD_old hlt]; exact h.sp j hlt
  · obtain rfl : j = st.length := by omega
    rw [getD_new rfl]; exact e2
theorem Std.more {sh rsh : List (List Int)} {sp rsp : List Sp} {st : List Nat} (h : Std sh sp rsh rsp st) (hl : rsp.length = rsh.length) (s : List Int) (p : Sp) : Std sh sp (rsh ++ [s]) (rsp ++ [p]) st := by
  refine ⟨fun j hj => ?_, fun j hj => ?_, fun j hj => ?_⟩
  all_goals have := h.lt j hj
  · rw [List.length_append]; omega
  · rw [gD_left this]; exact h.sh j hj
  · rw [gS_left (by omega)]; exact h.sp j hj
theorem run_nums {sh : List (List Int)} {V : List (List Int)} {n : NodeP} {i : Nat} (hi : i ≤ V.length) (hah : AheadP n i) (h1 : n.kind ≠ 1) : numsAt sh n.toV (V.take i) = numsA n.toV (entries (gD sh i)).toNat (gD sh n.a.toNat) (V.getD n.a.toNat []) (V.getD n.b.toNat []) := by
  unfold numsAt
  rw [List.length_take, Nat.min_eq_left hi]
  by_cases h2 : n.kind = 2
  · exact nums_two (n := n.toV) h2 _ _ _ _ _ _ _
  · have ea : n.toV.a = n.a := rfl
    have eb : n.toV.b = n.b := rfl
    rw [ea, eb, getL_take (hah.a1 h1 h2)]
    by_cases h6 : n.kind = 6
    · rw [getL_take (hah.b1 h6)]
    · exact nums_freeB (n := n.toV) h6 _ _ _ _ _
theorem RunAt.step {l : List NodeP} {sh : List (List Int)} {sp : List Sp} {inp V : List (List Int)} {i : Nat} {row : List NodeP} {st : List Nat} {rsh : List (List Int)} {rsp : List Sp} {ip W : List (List Int)} (hL : RowOk l sh sp) (hV : V.length = l.length) (h : RunAt l sh sp inp V i row st rsh rsp ip W) (hi : i < l.length) : ∃ row' st' rsh' rsp' ip' W', RunAt l sh sp inp V (i + 1) row' st' rsh' rsp' ip' W' := by
  obtain ⟨h1, hR, hS, hrun, ⟨ip2, e1, hrest⟩, hvals⟩ := h
  have hlen := h1.len
  subst hlen
  have hn : l[st.length]? = some (l.getD st.length nilP) := getD_some hi
  generalize l.getD st.length nilP = n at hn
  have h1' := h1.step hL hn
  have hah := hL.ahead hn
  obtain ⟨hm, ht⟩ := fold_in hL hR hS hn
  have hmv := (moved_in hL hR hS hn).1
  have hspn := (hL.span _ _ hn).2
  have hWl := hrun.len
  rw [List.length_map] at hWl
  have hW := fun k hk h2 => vals_const (k := k) hR hrun hk h2
  have hiV : st.length < V.length := by omega
  rw [drop_map hn, drop_consL hiV] at hrest
  have hltr : ∀ k, k < st.length → st.getD k 0 < row.length := fun k hk => by have := hS.lt k hk; rw [hR.lenS] at this; exact this
  have hmf := hm.form
  rw [hR.lenS] at hmf
  have hma := aheadP_of hmf
  by_cases hk1 : n.kind = 1
  · -- an input
    have hf := fold_input (s := gD sh st.length) (row := row) (st := st) hk1
    rw [hf] at hm ht hma
    have hR' := hR.snoc hm (by unfold tight at ht; omega) (by unfold tight at ht; omega)
    have e2 : stepP (gD sh st.length) (row, st) n = (row ++ [n], st ++ [row.length]) := by
      unfold stepP layP
      simp only [hf]
      have : findP row n = none := by unfold findP; rw [if_pos hk1]
      rw [this]
    rw [e2] at h1'
    obtain ⟨xs, e3, hx, hrest⟩ := hrest.head_inp hk1
    rw [List.length_take, Nat.min_eq_left (by omega)] at hx
    have hr2 := hrun.snoc_inp hR (m := n) (s := gD sh st.length) hk1 hx
    refine ⟨_, _, _, _, _, _, h1', hR', ?_, hr2, ⟨xs, by rw [e1, e3, List.append_assoc]; rfl, by rw [take_snocL hiV]; exact hrest⟩, fun k hk => ?_⟩
    · exact (hS.more (by rw [hR.lenS, hR.lenP]) _ _).old (k := row.length) (by rw [List.length_append, List.length_singleton, hR.lenS]; omega) (gD_last hR.lenS.symm) (by rw [gS_last hR.lenP.symm]; exact ht)
    · rcases Nat.lt_or_ge k st.length with hlt | hge
      · rw [getD_old hlt, getL_old (by rw [hWl]; exact hltr k hlt)]
        exact hvals k hlt
      · obtain rfl : k = st.length := by omega
        rw [getD_new rfl, getL_new hWl.symm]
  · obtain ⟨hv, hrest⟩ := hrest.head_num hk1
    have hv2 := run_nums (sh := sh) (Nat.le_of_lt hiV) hah hk1
    have hval := (fold_nums hR hmv hW).trans (moved_nums hS hah hvals hk1 (entries (gD sh st.length)).toNat)
    rw [← hv2] at hval
    have hfk : (foldP (gD sh st.length) row (movedP st n)).kind ≠ 1 := fun h => hk1 (fold_kind.1 h)
    have e2 : stepP (gD sh st.length) (row, st) n = ((layP row (foldP (gD sh st.length) row (movedP st n))).1, st ++ [(layP row (foldP (gD sh st.length) row (movedP st n))).2]) := rfl
    rw [e2] at h1'
    generalize foldP (gD sh st.length) row (movedP st n) = m at *
    rw [← List.append_nil ip, ← List.append_nil ip] at e1
    unfold layP at h1'
    cases hf : findP row m with
    | some k =>
      rw [hf] at h1'
      obtain ⟨_, hk⟩ := findP_some hf
      have hkl := (List.getElem?_eq_some_iff.1 hk).1
      obtain ⟨q1, q2⟩ := same_place hR hk hm
      have hwk := vals_at hR hrun hk hfk
      rw [q1, hval] at hwk
      refine ⟨_, _, rsh, rsp, ip, W, h1', hR, hS.old (by rw [hR.lenS]; exact hkl) q1 (by rw [q2]; exact ht), hrun, ⟨ip2, by simpa using e1, by rw [take_snocL hiV]; exact hrest⟩, fun j hj => ?_⟩
      rcases Nat.lt_or_ge j st.length with hlt | hge
      · rw [getD_old hlt]; exact hvals j hlt
      · obtain rfl : j = st.length := by omega
        rw [getD_new rfl, hwk, hv]
    | none =>
      rw [hf] at h1'
      have hR' := hR.snoc hm (by unfold tight at ht; omega) (by unfold tight at ht; omega)
      have hr2 := hrun.snoc_num hR hma hfk (gD sh st.length)
      rw [hval] at hr2
      refine ⟨_, _, _, _, _, _, h1', hR', (hS.more (by rw [hR.lenS, hR.lenP]) _ _).old (k := row.length) (by rw [List.length_append, List.length_singleton, hR.lenS]; omega) (gD_last hR.lenS.symm) (by rw [gS_last hR.lenP.symm]; exact ht), hr2, ⟨ip2, by simpa using e1, by rw [take_snocL hiV]; exact hrest⟩, fun j hj => ?_⟩
      rcases Nat.lt_or_ge j st.length with hlt | hge
      · rw [getD_old hlt, getL_old (by rw [hWl]; exact hltr j hlt)]
        exact hvals j hlt
      · obtain rfl : j = st.length := by omega
        rw [getD_new rfl, getL_new hWl.symm, hv]
end Go.Proofs.Ytdmkdogakbipbaa

/- PG -/
namespace Go.Proofs.Ytdmkdogakbipbaa
open Go.SX Go.RowKit
theorem on_nums {sh rsh : List (List Int)} {st : List Nat} {n : NodeP} {V W : List (List Int)} (h1 : n.kind ≠ 1) (hA : n.kind ≠ 2 → gD rsh (st.getD n.a.toNat 0) = gD sh n.a.toNat ∧ W.getD (st.getD n.a.toNat 0) [] = V.getD n.a.toNat []) (hB : n.kind = 6 → W.getD (st.getD n.b.toNat 0) [] = V.getD n.b.toNat []) (cnt : Nat) :
    numsA (movedP st n).toV cnt (gD rsh (movedP st n).a.toNat) (W.getD (movedP st n).a.toNat []) (W.getD (movedP st n).b.toNat []) = numsA n.toV cnt (gD sh n.a.toNat) (V.getD n.a.toNat []) (V.getD n.b.toNat []) := by
  obtain ⟨e0, ek, ea, _, eb, _⟩ := moved_eq st n
  rw [e0, nums_move]
  by_cases h2 : n.kind = 2
  · exact nums_two (n := n.toV) h2 _ _ _ _ _ _ _
  · rw [ea h1 h2, Int.toNat_natCast, (hA h2).1, (hA h2).2]
    by_cases h6 : n.kind = 6
    · rw [eb h6, Int.toNat_natCast, hB h6]
    · exact nums_freeB (n := n.toV) h6 _ _ _ _ _
structure CutRun (row : List NodeP) (rsh : List (List Int)) (rsp : List Sp) (need : Nat → Bool) (inp V : List (List Int)) (i : Nat) (r : List NodeP) (p : List Nat) (rsh' : List (List Int)) (rsp' : List Sp) (ip W : List (List Int)) : Prop where
  at_ : CutAt row rsh rsp need i r p
  ok : RowOk r rsh' rsp'
  place : ∀ k, k < i → KeepP row need k → gD rsh' (p.getD k 0) = gD rsh k ∧ tight (gS rsp' (p.getD k 0)) (gS rsp k)
  run : RunQ rsh' (r.map NodeP.toV) [] ip W
  rest : ∃ ip2, inp = ip ++ ip2 ∧ RunQ rsh ((row.drop i).map NodeP.toV) (V.take i) ip2 (V.drop i)
  vals : ∀ k, k < i → KeepP row need k → W.getD (p.getD k 0) [] = V.getD k []
theorem CutRun.step {row : List NodeP} {rsh : List (List Int)} {rsp : List Sp} {need : Nat → Bool} {inp V : List (List Int)} {i : Nat} {r : List NodeP} {p : List Nat} {rsh' : List (List Int)} {rsp' : List Sp} {ip W : List (List Int)} (hR : RowOk row rsh rsp) (hcl : ∀ k, k < row.length → need k = true → ∀ t ∈ takesP (row.getD k nilP), need t.toNat = true) (hV : V.length = row.length) (h : CutRun row rsh rsp need inp V i r p rsh' rsp' ip W) (hi : i < row.length) : ∃ r' p' rsh2 rsp2 ip2 W2, CutRun row rsh rsp need inp V (i + 1) r' p' rsh2 rsp2 ip2 W2 := by
  obtain ⟨h1, hR', h7, hrun, ⟨ip2, e1, hrest⟩, hvals⟩ := h
  have hs := h1.steps hR hcl hi
  have hlen := h1.len
  have h4 := h1.at_
  subst hlen
  have hp := getD_some hi
  have hai := hR.ahead hp
  have hiV : p.length < V.length := by omega
  rw [drop_map hp, drop_consL hiV] at hrest
  have hWl := hrun.len
  rw [List.length_map] at hWl
  have hl2 := hR'.lenS
  have hl3 := hR'.lenP
  have hlt : ∀ k, k < p.length → KeepP row need k → p.getD k 0 < r.length := fun k hk hq => (List.getElem?_eq_some_iff.1 (h4 k hk hq)).1
  by_cases hk : KeepP row need p.length
  · have hc := hs.1 hk
    have hkt : (row.getD p.length nilP).kind ≠ 1 → ∀ t ∈ takesP (row.getD p.length nilP), KeepP row need t.toNat := fun hne t ht => .inl (hcl _ hi (hk.resolve_right hne) t ht)
    obtain ⟨hm, ht⟩ := moved_on (st := p) hR hR' hp
      (fun g1 g2 => by
        have ha := hai.a1 g1 g2
        have hq := hkt g1 _ (takes_a g1 g2)
        exact ⟨by rw [hl2]; exact hlt _ ha hq, (h7 _ ha hq).1, (h7 _ ha hq).2⟩)
      (fun g6 => by
        have hb := hai.b1 g6
        have hq := hkt (by omega) _ (takes_b g6)
        exact ⟨by rw [hl2]; exact hlt _ hb hq, (h7 _ hb hq).1, (h7 _ hb hq).2⟩)
    have hspn := (hR.span _ _ hp).2
    have hR2 := hR'.snoc hm (by unfold tight at ht; omega) (by unfold tight at ht; omega)
    have hpl : ∀ k, k < p.length + 1 → KeepP row need k → gD (rsh' ++ [gD rsh p.length]) ((p ++ [r.length]).getD k 0) = gD rsh k ∧ tight (gS (rsp' ++ [spanP (movedP p (row.getD p.length nilP)) (gD rsh p.length) rsh' rsp']) ((p ++ [r.length]).getD k 0)) (gS rsp k) := fun k hk1 hk2 => by
      rcases Nat.lt_or_ge k p.length with hlk | hge
      · have hlr := hlt k hlk hk2
        rw [getD_old hlk, gD_left (by omega), gS_left (by omega)]
        exact h7 k hlk hk2
      · obtain rfl : k = p.length := by omega
        rw [getD_new rfl, gD_last (by omega), gS_last (by omega)]
        exact ⟨rfl, ht⟩
    have hvs : ∀ x, x = V.getD p.length [] → ∀ k, k < p.length + 1 → KeepP row need k → (W ++ [x]).getD ((p ++ [r.length]).getD k 0) [] = V.getD k [] := fun x hx k hk1 hk2 => by
      rcases Nat.lt_or_ge k p.length with hlk | hge
      · rw [getD_old hlk, getL_old (by rw [hWl]; exact hlt k hlk hk2)]
        exact hvals k hlk hk2
      · obtain rfl : k = p.length := by omega
        rw [getD_new rfl, getL_new hWl.symm, hx]
    by_cases hk1 : (row.getD p.length nilP).kind = 1
    · obtain ⟨xs, e3, hx, hrest⟩ := hrest.head_inp hk1
      have ef : movedP p (row.getD p.length nilP) = row.getD p.length nilP := by
        unfold movedP
        rw [if_pos (.inl hk1)]
      rw [List.length_take, Nat.min_eq_left (by omega)] at hx
      have hr2 := hrun.snoc_inp hR' (m := row.getD p.length nilP) (s := gD rsh p.length) hk1 hx
      rw [ef] at hc hR2 hpl
      exact ⟨_, _, _, _, _, _, hc, hR2, hpl, hr2, ⟨_, by rw [e1, e3, List.append_assoc]; rfl, by rw [take_snocL hiV]; exact hrest⟩, hvs _ rfl⟩
    · obtain ⟨hv, hrest⟩ := hrest.head_num hk1
      have hmf := hm.form
      rw [hR'.lenS] at hmf
      have hr2 := hrun.snoc_num hR' (aheadP_of hmf) (by rw [(moved_eq p _).2.1]; exact hk1) (gD rsh p.length)
      have hv2 := run_nums (sh := rsh) (Nat.le_of_lt hiV) hai hk1
      rw [on_nums hk1 (fun g2 => by
        have ha := hai.a1 hk1 g2
        have hq := hkt hk1 _ (takes_a hk1 g2)
        exact ⟨(h7 _ ha hq).1, hvals _ ha hq⟩) (fun g6 => by
        have hb := hai.b1 g6
        have hq := hkt (by omega) _ (takes_b g6)
        exact hvals _ hb hq), ← hv2, ← hv] at hr2
      exact ⟨_, _, _, _, _, _, hc, hR2, hpl, hr2, ⟨ip2, e1, by rw [take_snocL hiV]; exact hrest⟩, hvs _ rfl⟩
  · have hc := hs.2 hk
    have hne : ∀ k, k < p.length + 1 → KeepP row need k → k < p.length := fun k h1 h2 => by
      rcases Nat.lt_or_ge k p.length with h | h
      · exact h
      · obtain rfl : k = p.length := by omega
        exact absurd h2 hk
    obtain ⟨_, hrest⟩ := hrest.head_num (fun h => hk (.inr h))
    exact ⟨r, _, rsh', rsp', ip, W, hc, hR', fun k q1 q2 => by rw [getD_old (hne k q1 q2)]; exact h7 k (hne k q1 q2) q2, hrun, ⟨ip2, e1, by rw [take_snocL hiV]; exact hrest⟩, fun k q1 q2 => by rw [getD_old (hne k q1 q2)]; exact hvals k (hne k q1 q2) q2⟩
end Go.Proofs.Ytdmkdogakbipbaa

/- PH -/
namespace Go.Proofs.Ytdmkdogakbipbaa
open Go.SX Go.RowKit
end Go.Proofs.Ytdmkdogakbipbaa

