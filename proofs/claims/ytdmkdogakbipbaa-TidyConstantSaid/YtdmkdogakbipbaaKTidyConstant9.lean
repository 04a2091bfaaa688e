import Derived.Test.YtdmkdogakbipbaaKTidyConstant8
/- GY -/
namespace Go.Proofs.Ytdmkdogakbipbaa
abbrev dtGY0 : Go.SX.DT := (.take 0 (.take 3 (.take 4 (.take 5 (.take 6 (.take 7 (.take 8 (.take 9 (.take 10 (.take 13 (.take 14 (.take 15 (.take 16 (.take 17 (.one 1 (.take 2 (.one 11 (.take 12 (.one 18 (.take 19 (.one 20 (.take 21 (.done)))))))))))))))))))))))
abbrev dtGY1 : Go.SX.DT := (.take 0 (.take 1 (.take 2 (.take 3 (.take 4 (.take 5 (.take 6 (.take 7 (.take 8 (.take 9 (.take 10 (.take 11 (.take 12 (.take 13 (.take 14 (.take 15 (.take 16 (.take 17 (.take 19 (.take 20 (.take 21 (.take 22 (.one 18 (.one 23 (.take 24 (.one 25 (.done)))))))))))))))))))))))))))
open Go.SX Go.RowKit
/-- what the function that makes a node hands back -/
structure NodeOut (sv : ShapesV) (x : NodeV × Bool) : Prop where
  good : GoodNode x.1 (sv.l.map (·.xs))
  alias_ : x.2 = true → x.1.shape ∈ sv.l
abbrev NPost (w : World) (b : Nat) (t : BytesV) (sv : ShapesV) : Ending → World → Prop := TPost w b t (fun x : NodeV × Bool => x.1.valA) (fun x => nodeD x.1 x.2) (NodeOut sv)
/-- the ending: a node whose numbers are at hand -/
theorem ends_node {w : World} {b : Nat} {t : BytesV} {sv : ShapesV} {H : Heap} {S : Asn} {nx k : Nat} {v : SV} (h0 : (0, Ent.box (cs (tcells t k)) 30) ∈ H) (hk : k ≤ t.bs.length) (hS : ∀ R w', S.holds R w' → (restA w b).holds R w')
    (h : ∀ ρ w', Abs ⟨w, [(0, boxL b)]⟩ ρ nx H S w' → ∃ x : NodeV × Bool, v.rf ρ = x.1.valA ∧ NodeOut sv x ∧ (nodeD x.1 x.2).holds (fun y => w.heap.size ≤ y ∧ y < w'.heap.size) w') : finK ⟨w, [(0, boxL b)]⟩ v H S nx (NPost w b t sv) :=
  fin_of fun ρ w' hw => by
    obtain ⟨x, e, hx, hd⟩ := h ρ w' hw
    exact ⟨(x, k), ⟨hx, hk⟩, by rw [e], (box_end hw hS h0).1, (box_end hw hS h0).2, hd⟩
/-- one's own numbers at a node's end -/
theorem shapes_get {sv : ShapesV} {i : Nat} (h : i < sv.l.length) : (sv.l.map (·.xs)).getD i [] = sv.l[i].xs := by simp [List.getD, h]
theorem smallL1 {x : Int} (h : -4 ≤ x ∧ x ≤ 4) : smallL [x] := fun y hy => by simp at hy; subst hy; exact h
theorem smallL3 {x y z : Int} (h1 : -4 ≤ x ∧ x ≤ 4) (h2 : -4 ≤ y ∧ y ≤ 4) (h3 : -4 ≤ z ∧ z ≤ 4) : smallL [x, y, z] := fun u hu => by
  simp only [List.mem_cons, List.not_mem_nil, or_false] at hu
  rcases hu with rfl | rfl | rfl <;> assumption
theorem agg_shape {ρ : Nat → SX.Loc} {v : SV} {u : IntsV} {k a b c d e : Int} {x y : Value} (h : v.rf ρ = u.val) : (SV.agg [.c (.int .i64 k), .c (.int .i64 a), .c (.int .i64 b), v, .c (.int .i64 c), .c (.int .i64 d), .c (.int .i64 e), .c x, .c y]).rf ρ = .agg #[.int .i64 k, .int .i64 a, .int .i64 b, u.val, .int .i64 c, .int .i64 d, .int .i64 e, x, y] := by
  simp only [SV.rf, SV.rfs] at h ⊢
  rw [h]
theorem agg_data {ρ : Nat → SX.Loc} {v : SV} {u : IntsV} {k a b c d e : Int} {x y : Value} (h : v.rf ρ = u.val) : (SV.agg [.c (.int .i64 k), .c (.int .i64 a), .c (.int .i64 b), .c x, .c (.int .i64 c), .c (.int .i64 d), .c (.int .i64 e), v, .c y]).rf ρ = .agg #[.int .i64 k, .int .i64 a, .int .i64 b, x, .int .i64 c, .int .i64 d, .int .i64 e, u.val, y] := by
  simp only [SV.rf, SV.rfs] at h ⊢
  rw [h]
set_option maxRecDepth 20000 in
set_option maxHeartbeats 8000000 in
theorem node_any (w : World) (b : Nat) (t : BytesV) (k : Nat) (h : TapeOk w b t k) (sv : ShapesV) (hsv : (shapesD sv).holds (oth w b) w) (hl : 1 ≤ sv.l.length ∧ sv.l.length ≤ 23) (hsane : ∀ u ∈ sv.l, u.sane) (hok : ∀ u ∈ sv.l, ShOk u.xs) :
    Calls Try.prog 42 #[.pointer (some ⟨b, 0, none⟩), sv.val] w (NPost w b t sv) := by
  obtain ⟨hs, hby, hd, hk, hb⟩ := h
  obtain ⟨sb, hsb⟩ : ∃ a, sv.base = some a := base_some (j := 0) (rowsA_in hsv.1) (by rw [shRows_length]; omega)
  have hlm : (sv.l.map (·.xs)).length = sv.l.length := List.length_map _
  refine calls_of tab tabOk Try.func42 rfl rfl rfl [(0, boxL b)] (fun _ => boxL b) [.lp 0 0 0 0, .c sv.val] _ (restA w b) 1 (by simp [SV.rfs, SV.rf, boxL, add_none]) rfl (by show 2 ≤ _; decide) (abs_box hb) ?_
  (repeat' ((conv => whnf) <;> first | (show drawK _ 13 _ _ _ _ _ _; refine draw_tree tabOk mixed [] _ dtGY0 (by kernel_rfl) (by kernel_rfl) (by kernel_rfl) (List.Sublist.refl _) ?_) | (show drawK _ 14 _ _ _ _ _ _; refine draw_tree tabOk mixed [25] _ dtGY1 (by kernel_rfl) (by kernel_rfl) (by kernel_rfl) (List.Sublist.refl _) ?_) | (show Wp _ _ _ _ _ _ _; refine Wp.go tabOk rfl ?_) | (show @cmpK _ _ _; (first | refine cmpY ?_ | refine cmpN ?_ | (refine cmp_both ?_ ?_ <;> intro _))) | (show wrapK _ _ _; refine wrapA ?_) | (show leK _ _ _; refine leA ?_) | (show roomK _ _ _; refine roomA ?_) | (show ltK _ _ _; refine ltA ?_) | (show _ ∧ _; refine ⟨?_, ?_⟩) | (show keepK _ _ _ _ _; refine keepA ?_) | refine own_keep ?_ | refine ap_old ?_))
  all_goals
    first
      | refine call_num (f := 41) [.int .i64 3] t k _ (by first | exact List.mem_cons_self | exact List.mem_cons_of_mem _ List.mem_cons_self | (repeat (first | exact List.mem_cons_self | apply List.mem_cons_of_mem))) Try.call41 hs hby hk (fun R w' h => rest_holds hd (by first | exact h | exact h.1 | exact h.1.1 | exact h.1.1.1)) (fun w' b' ht => next_any w' b' t k ht 3 ⟨by decide, by decide⟩) (fun r k1 hr hk1 => ?_)
      | refine call_num (f := 41) [.int .i64 sv.l.length] t k _ (by first | exact List.mem_cons_self | exact List.mem_cons_of_mem _ List.mem_cons_self | (repeat (first | exact List.mem_cons_self | apply List.mem_cons_of_mem))) Try.call41 hs hby hk (fun R w' h => rest_holds hd (by first | exact h | exact h.1 | exact h.1.1 | exact h.1.1.1)) (fun w' b' ht => next_any w' b' t k ht sv.l.length ⟨by omega, by omega⟩) (fun r k1 hr hk1 => ?_)
    obtain ⟨i, hia, hil⟩ : ∃ i : Nat, (sv.l.length : Int) - 1 - r = i ∧ i < sv.l.length := ⟨((sv.l.length : Int) - 1 - r).toNat, by have := hr.1; have := hr.2.1; have := hr.2.2; omega, by have := hr.1; have := hr.2.1; have := hr.2.2; omega⟩
    have hgi := shapes_get hil
    have hum := List.getElem_mem hil
    have hrow := shRows_get hil
    generalize sv.l[i] = u at *
    have hus := hsane u hum
    have huo := hok u hum
    have hup := huo.pos
    have huf := huo.few
    have hi2 : i < (sv.l.map (·.xs)).length := by rw [hlm]; exact hil
    have h24 : (sv.l.map (·.xs)).length ≤ 24 := by rw [hlm]; omega
    have hr0 := hr.1
    have hr1 := hr.2.1
    have hr2 := hr.2.2
    (repeat' ((conv => whnf) <;> first | (show idxK _ _ _ _ _; refine idx_of sb i hsb hia hil ?_) | (show roK _ _ _; (refine ro_row0 (fun R w' h => by rw [← hsb]; exact rowsA_in (rest_holds hsv h).1) _ _ hrow rfl ?_)) | (show callK _ 34 _ _ _ _ _; refine call_pure (f := 34) Try.call34 (.int .i64 (entries u.xs)) (fun ρ w' hw => refEntries_any w' u.base u.cap u.xs (holds_of_abs hw fun R h => rowsA_in ((rest_holds hsv h).2 u hum))) ?_) | (show drawK _ 13 _ _ _ _ _ _; refine draw_tree tabOk mixed [] _ dtGY0 (by kernel_rfl) (by kernel_rfl) (by kernel_rfl) (List.Sublist.refl _) ?_) | (show drawK _ 14 _ _ _ _ _ _; refine draw_tree tabOk mixed [25] _ dtGY1 (by kernel_rfl) (by kernel_rfl) (by kernel_rfl) (List.Sublist.refl _) ?_) | (show Wp _ _ _ _ _ _ _; refine Wp.go tabOk rfl ?_) | (show @cmpK _ _ _; (first | refine cmpY ?_ | refine cmpN ?_ | (refine cmp_both ?_ ?_ <;> intro _))) | (show wrapK _ _ _; refine wrapA ?_) | (show leK _ _ _; refine leA ?_) | (show roomK _ _ _; refine roomA ?_) | (show ltK _ _ _; refine ltA ?_) | (show _ ∧ _; refine ⟨?_, ?_⟩) | (show keepK _ _ _ _ _; refine keepA ?_) | refine own_keep ?_ | refine ap_old ?_))
    refine call_num (f := 41) [.int .i64 9] t k1 _ (by first | exact List.mem_cons_self | exact List.mem_cons_of_mem _ List.mem_cons_self | (repeat (first | exact List.mem_cons_self | apply List.mem_cons_of_mem))) Try.call41 hs hby hk1 (fun R w' h => rest_holds hd (by first | exact h | exact h.1 | exact h.1.1 | exact h.1.1.1)) (fun w' b' ht => next_any w' b' t k1 ht 9 ⟨by decide, by decide⟩) (fun q k2 hq hk2 => ?_)
    have hq9 : q = 0 ∨ q = 1 ∨ q = 2 ∨ q = 3 ∨ q = 4 ∨ q = 5 ∨ q = 6 ∨ q = 7 ∨ q = 8 := by have := hq.1; have := hq.2.1 (by omega); omega
    rcases hq9 with rfl | rfl | rfl | rfl | rfl | rfl | rfl | rfl | rfl
    · (repeat' ((conv => whnf) <;> first | (show drawK _ 13 _ _ _ _ _ _; refine draw_tree tabOk mixed [] _ dtGY0 (by kernel_rfl) (by kernel_rfl) (by kernel_rfl) (List.Sublist.refl _) ?_) | (show drawK _ 14 _ _ _ _ _ _; refine draw_tree tabOk mixed [25] _ dtGY1 (by kernel_rfl) (by kernel_rfl) (by kernel_rfl) (List.Sublist.refl _) ?_) | (show Wp _ _ _ _ _ _ _; refine Wp.go tabOk rfl ?_) | (show @cmpK _ _ _; (first | refine cmpY ?_ | refine cmpN ?_ | (refine cmp_both ?_ ?_ <;> intro _))) | (show wrapK _ _ _; refine wrapA ?_) | (show leK _ _ _; refine leA ?_) | (show roomK _ _ _; refine roomA ?_) | (show ltK _ _ _; refine ltA ?_) | (show _ ∧ _; refine ⟨?_, ?_⟩) | (show keepK _ _ _ _ _; refine keepA ?_) | refine own_keep ?_ | refine ap_old ?_))
      refine call_t (f := 71) [.int .i64 (entries u.xs)] t k2 IntsV.val intsA _ (by first | exact List.mem_cons_self | exact List.mem_cons_of_mem _ List.mem_cons_self | (repeat (first | exact List.mem_cons_self | apply List.mem_cons_of_mem))) Try.call71 hs hby hk2 (fun R w' h => rest_holds hd (by first | exact h | exact h.1 | exact h.1.1 | exact h.1.1.1)) (fun R w' b' ht _ _ => row_any w' b' t k2 ht (entries u.xs) (by omega) (by omega)) (fun d k3 hdd hk3 => ?_)
      (repeat' ((conv => whnf) <;> first | (show drawK _ 13 _ _ _ _ _ _; refine draw_tree tabOk mixed [] _ dtGY0 (by kernel_rfl) (by kernel_rfl) (by kernel_rfl) (List.Sublist.refl _) ?_) | (show drawK _ 14 _ _ _ _ _ _; refine draw_tree tabOk mixed [25] _ dtGY1 (by kernel_rfl) (by kernel_rfl) (by kernel_rfl) (List.Sublist.refl _) ?_) | (show Wp _ _ _ _ _ _ _; refine Wp.go tabOk rfl ?_) | (show @cmpK _ _ _; (first | refine cmpY ?_ | refine cmpN ?_ | (refine cmp_both ?_ ?_ <;> intro _))) | (show wrapK _ _ _; refine wrapA ?_) | (show leK _ _ _; refine leA ?_) | (show roomK _ _ _; refine roomA ?_) | (show ltK _ _ _; refine ltA ?_) | (show _ ∧ _; refine ⟨?_, ?_⟩) | (show keepK _ _ _ _ _; refine keepA ?_) | refine own_keep ?_ | refine ap_old ?_))
      conv => whnf
      exact ends_node (by first | exact List.mem_cons_self | exact List.mem_cons_of_mem _ List.mem_cons_self | (repeat (first | exact List.mem_cons_self | apply List.mem_cons_of_mem))) hk3 (fun _ _ h => h.1) (fun ρ w' hw => ⟨(⟨2, 0, 0, u, 0, 0, 0, d, nilI⟩, true), rfl, ⟨good_const hus huo hdd.2.2 (by rw [hdd.1]; omega) hdd.2.1, fun _ => hum⟩, ⟨fun e => (by cases e), past_new hw (fun _ _ h => h.2), nilI_holds _ _⟩⟩)
    · (repeat' ((conv => whnf) <;> first | (show drawK _ 13 _ _ _ _ _ _; refine draw_tree tabOk mixed [] _ dtGY0 (by kernel_rfl) (by kernel_rfl) (by kernel_rfl) (List.Sublist.refl _) ?_) | (show drawK _ 14 _ _ _ _ _ _; refine draw_tree tabOk mixed [25] _ dtGY1 (by kernel_rfl) (by kernel_rfl) (by kernel_rfl) (List.Sublist.refl _) ?_) | (show Wp _ _ _ _ _ _ _; refine Wp.go tabOk rfl ?_) | (show @cmpK _ _ _; (first | refine cmpY ?_ | refine cmpN ?_ | (refine cmp_both ?_ ?_ <;> intro _))) | (show wrapK _ _ _; refine wrapA ?_) | (show leK _ _ _; refine leA ?_) | (show roomK _ _ _; refine roomA ?_) | (show ltK _ _ _; refine ltA ?_) | (show _ ∧ _; refine ⟨?_, ?_⟩) | (show keepK _ _ _ _ _; refine keepA ?_) | refine own_keep ?_ | refine ap_old ?_))
      refine call_num (f := 41) [.int .i64 4] t k2 _ (by first | exact List.mem_cons_self | exact List.mem_cons_of_mem _ List.mem_cons_self | (repeat (first | exact List.mem_cons_self | apply List.mem_cons_of_mem))) Try.call41 hs hby hk2 (fun R w' h => rest_holds hd (by first | exact h | exact h.1 | exact h.1.1 | exact h.1.1.1)) (fun w' b' ht => next_any w' b' t k2 ht 4 ⟨by omega, by omega⟩) (fun o k3 ho hk3 => ?_)
      have ho0 := ho.1
      have ho1 := ho.2.1 (by omega)
      have hm : 1 ≤ (1 + o) * entries u.xs ∧ (1 + o) * entries u.xs ≤ 72 := by
        have g1 : (1 + o) * entries u.xs ≤ 4 * 18 := Int.mul_le_mul (by omega) huf (by omega) (by omega)
        have g2 : 1 * 1 ≤ (1 + o) * entries u.xs := Int.mul_le_mul (by omega) hup (by omega) (by omega)
        omega
      (repeat' ((conv => whnf) <;> first | (show drawK _ 13 _ _ _ _ _ _; refine draw_tree tabOk mixed [] _ dtGY0 (by kernel_rfl) (by kernel_rfl) (by kernel_rfl) (List.Sublist.refl _) ?_) | (show drawK _ 14 _ _ _ _ _ _; refine draw_tree tabOk mixed [25] _ dtGY1 (by kernel_rfl) (by kernel_rfl) (by kernel_rfl) (List.Sublist.refl _) ?_) | (show Wp _ _ _ _ _ _ _; refine Wp.go tabOk rfl ?_) | (show @cmpK _ _ _; (first | refine cmpY ?_ | refine cmpN ?_ | (refine cmp_both ?_ ?_ <;> intro _))) | (show wrapK _ _ _; refine wrapA ?_) | (show leK _ _ _; refine leA ?_) | (show roomK _ _ _; refine roomA ?_) | (show ltK _ _ _; refine ltA ?_) | (show _ ∧ _; refine ⟨?_, ?_⟩) | (show keepK _ _ _ _ _; refine keepA ?_) | refine own_keep ?_ | refine ap_old ?_))
      refine call_t (f := 71) [.int .i64 ((1 + o) * entries u.xs)] t k3 IntsV.val intsA _ (by first | exact List.mem_cons_self | exact List.mem_cons_of_mem _ List.mem_cons_self | (repeat (first | exact List.mem_cons_self | apply List.mem_cons_of_mem))) Try.call71 hs hby hk3 (fun R w' h => rest_holds hd (by first | exact h | exact h.1 | exact h.1.1 | exact h.1.1.1)) (fun R w' b' ht _ _ => row_any w' b' t k3 ht ((1 + o) * entries u.xs) (by omega) (by omega)) (fun d k4 hdd hk4 => ?_)
      (repeat' ((conv => whnf) <;> first | (show drawK _ 13 _ _ _ _ _ _; refine draw_tree tabOk mixed [] _ dtGY0 (by kernel_rfl) (by kernel_rfl) (by kernel_rfl) (List.Sublist.refl _) ?_) | (show drawK _ 14 _ _ _ _ _ _; refine draw_tree tabOk mixed [25] _ dtGY1 (by kernel_rfl) (by kernel_rfl) (by kernel_rfl) (List.Sublist.refl _) ?_) | (show Wp _ _ _ _ _ _ _; refine Wp.go tabOk rfl ?_) | (show @cmpK _ _ _; (first | refine cmpY ?_ | refine cmpN ?_ | (refine cmp_both ?_ ?_ <;> intro _))) | (show wrapK _ _ _; refine wrapA ?_) | (show leK _ _ _; refine leA ?_) | (show roomK _ _ _; refine roomA ?_) | (show ltK _ _ _; refine ltA ?_) | (show _ ∧ _; refine ⟨?_, ?_⟩) | (show keepK _ _ _ _ _; refine keepA ?_) | refine own_keep ?_ | refine ap_old ?_))
      refine call_t (f := 71) [.int .i64 (1 + o)] t k4 IntsV.val intsA _ (by first | exact List.mem_cons_self | exact List.mem_cons_of_mem _ List.mem_cons_self | (repeat (first | exact List.mem_cons_self | apply List.mem_cons_of_mem))) Try.call71 hs hby hk4 (fun R w' h => rest_holds hd (by first | exact h | exact h.1 | exact h.1.1 | exact h.1.1.1)) (fun R w' b' ht _ _ => row_any w' b' t k4 ht (1 + o) (by omega) (by omega)) (fun e k5 hee hk5 => ?_)
      (repeat' ((conv => whnf) <;> first | (show drawK _ 13 _ _ _ _ _ _; refine draw_tree tabOk mixed [] _ dtGY0 (by kernel_rfl) (by kernel_rfl) (by kernel_rfl) (List.Sublist.refl _) ?_) | (show drawK _ 14 _ _ _ _ _ _; refine draw_tree tabOk mixed [25] _ dtGY1 (by kernel_rfl) (by kernel_rfl) (by kernel_rfl) (List.Sublist.refl _) ?_) | (show Wp _ _ _ _ _ _ _; refine Wp.go tabOk rfl ?_) | (show @cmpK _ _ _; (first | refine cmpY ?_ | refine cmpN ?_ | (refine cmp_both ?_ ?_ <;> intro _))) | (show wrapK _ _ _; refine wrapA ?_) | (show leK _ _ _; refine leA ?_) | (show roomK _ _ _; refine roomA ?_) | (show ltK _ _ _; refine ltA ?_) | (show _ ∧ _; refine ⟨?_, ?_⟩) | (show keepK _ _ _ _ _; refine keepA ?_) | refine own_keep ?_ | refine ap_old ?_))
      conv => whnf
      have hel : (e.xs.length : Int) = 1 + o := by rw [hee.1]; omega
      exact ends_node (by first | exact List.mem_cons_self | exact List.mem_cons_of_mem _ List.mem_cons_self | (repeat (first | exact List.mem_cons_self | apply List.mem_cons_of_mem))) hk5 (fun _ _ h => h.1.1) (fun ρ w' hw => ⟨(⟨3, ((sv.l.length : Int) - 1 - r), 0, nilI, 0, 0, 0, d, e⟩, false), rfl, ⟨by rw [hia]; exact good_dense hi2 hgi huo hdd.2.2 hee.2.2 ⟨by omega, by omega⟩ (by rw [hel, hdd.1]; omega) hdd.2.1 hee.2.1 h24, fun h => (by cases h)⟩, ⟨fun _ => nilI_holds _ _, past_new hw (fun _ _ h => h.1.2), past_new hw (fun _ _ h => h.2)⟩⟩)
    · (repeat' ((conv => whnf) <;> first | (show drawK _ 13 _ _ _ _ _ _; refine draw_tree tabOk mixed [] _ dtGY0 (by kernel_rfl) (by kernel_rfl) (by kernel_rfl) (List.Sublist.refl _) ?_) | (show drawK _ 14 _ _ _ _ _ _; refine draw_tree tabOk mixed [25] _ dtGY1 (by kernel_rfl) (by kernel_rfl) (by kernel_rfl) (List.Sublist.refl _) ?_) | (show Wp _ _ _ _ _ _ _; refine Wp.go tabOk rfl ?_) | (show @cmpK _ _ _; (first | refine cmpY ?_ | refine cmpN ?_ | (refine cmp_both ?_ ?_ <;> intro _))) | (show wrapK _ _ _; refine wrapA ?_) | (show leK _ _ _; refine leA ?_) | (show roomK _ _ _; refine roomA ?_) | (show ltK _ _ _; refine ltA ?_) | (show _ ∧ _; refine ⟨?_, ?_⟩) | (show keepK _ _ _ _ _; refine keepA ?_) | refine own_keep ?_ | refine ap_old ?_))
      refine call_num (f := 41) [.int .i64 4] t k2 _ (by first | exact List.mem_cons_self | exact List.mem_cons_of_mem _ List.mem_cons_self | (repeat (first | exact List.mem_cons_self | apply List.mem_cons_of_mem))) Try.call41 hs hby hk2 (fun R w' h => rest_holds hd (by first | exact h | exact h.1 | exact h.1.1 | exact h.1.1.1)) (fun w' b' ht => next_any w' b' t k2 ht 4 ⟨by omega, by omega⟩) (fun o k3 ho hk3 => ?_)
      have ho0 := ho.1
      have ho1 := ho.2.1 (by omega)
      have hm : 1 ≤ (1 + o) * entries u.xs ∧ (1 + o) * entries u.xs ≤ 72 := by
        have g1 : (1 + o) * entries u.xs ≤ 4 * 18 := Int.mul_le_mul (by omega) huf (by omega) (by omega)
        have g2 : 1 * 1 ≤ (1 + o) * entries u.xs := Int.mul_le_mul (by omega) hup (by omega) (by omega)
        omega
      (repeat' ((conv => whnf) <;> first | (show drawK _ 13 _ _ _ _ _ _; refine draw_tree tabOk mixed [] _ dtGY0 (by kernel_rfl) (by kernel_rfl) (by kernel_rfl) (List.Sublist.refl _) ?_) | (show drawK _ 14 _ _ _ _ _ _; refine draw_tree tabOk mixed [25] _ dtGY1 (by kernel_rfl) (by kernel_rfl) (by kernel_rfl) (List.Sublist.refl _) ?_) | (show Wp _ _ _ _ _ _ _; refine Wp.go tabOk rfl ?_) | (show @cmpK _ _ _; (first | refine cmpY ?_ | refine cmpN ?_ | (refine cmp_both ?_ ?_ <;> intro _))) | (show wrapK _ _ _; refine wrapA ?_) | (show leK _ _ _; refine leA ?_) | (show roomK _ _ _; refine roomA ?_) | (show ltK _ _ _; refine ltA ?_) | (show _ ∧ _; refine ⟨?_, ?_⟩) | (show keepK _ _ _ _ _; refine keepA ?_) | refine own_keep ?_ | refine ap_old ?_))
      refine call_t (f := 71) [.int .i64 ((1 + o) * entries u.xs)] t k3 IntsV.val intsA _ (by first | exact List.mem_cons_self | exact List.mem_cons_of_mem _ List.mem_cons_self | (repeat (first | exact List.mem_cons_self | apply List.mem_cons_of_mem))) Try.call71 hs hby hk3 (fun R w' h => rest_holds hd (by first | exact h | exact h.1 | exact h.1.1 | exact h.1.1.1)) (fun R w' b' ht _ _ => row_any w' b' t k3 ht ((1 + o) * entries u.xs) (by omega) (by omega)) (fun d k4 hdd hk4 => ?_)
      (repeat' ((conv => whnf) <;> first | (show drawK _ 13 _ _ _ _ _ _; refine draw_tree tabOk mixed [] _ dtGY0 (by kernel_rfl) (by kernel_rfl) (by kernel_rfl) (List.Sublist.refl _) ?_) | (show drawK _ 14 _ _ _ _ _ _; refine draw_tree tabOk mixed [25] _ dtGY1 (by kernel_rfl) (by kernel_rfl) (by kernel_rfl) (List.Sublist.refl _) ?_) | (show Wp _ _ _ _ _ _ _; refine Wp.go tabOk rfl ?_) | (show @cmpK _ _ _; (first | refine cmpY ?_ | refine cmpN ?_ | (refine cmp_both ?_ ?_ <;> intro _))) | (show wrapK _ _ _; refine wrapA ?_) | (show leK _ _ _; refine leA ?_) | (show roomK _ _ _; refine roomA ?_) | (show ltK _ _ _; refine ltA ?_) | (show _ ∧ _; refine ⟨?_, ?_⟩) | (show keepK _ _ _ _ _; refine keepA ?_) | refine own_keep ?_ | refine ap_old ?_))
      refine call_t (f := 71) [.int .i64 (1 + o)] t k4 IntsV.val intsA _ (by first | exact List.mem_cons_self | exact List.mem_cons_of_mem _ List.mem_cons_self | (repeat (first | exact List.mem_cons_self | apply List.mem_cons_of_mem))) Try.call71 hs hby hk4 (fun R w' h => rest_holds hd (by first | exact h | exact h.1 | exact h.1.1 | exact h.1.1.1)) (fun R w' b' ht _ _ => row_any w' b' t k4 ht (1 + o) (by omega) (by omega)) (fun e k5 hee hk5 => ?_)
      (repeat' ((conv => whnf) <;> first | (show drawK _ 13 _ _ _ _ _ _; refine draw_tree tabOk mixed [] _ dtGY0 (by kernel_rfl) (by kernel_rfl) (by kernel_rfl) (List.Sublist.refl _) ?_) | (show drawK _ 14 _ _ _ _ _ _; refine draw_tree tabOk mixed [25] _ dtGY1 (by kernel_rfl) (by kernel_rfl) (by kernel_rfl) (List.Sublist.refl _) ?_) | (show Wp _ _ _ _ _ _ _; refine Wp.go tabOk rfl ?_) | (show @cmpK _ _ _; (first | refine cmpY ?_ | refine cmpN ?_ | (refine cmp_both ?_ ?_ <;> intro _))) | (show wrapK _ _ _; refine wrapA ?_) | (show leK _ _ _; refine leA ?_) | (show roomK _ _ _; refine roomA ?_) | (show ltK _ _ _; refine ltA ?_) | (show _ ∧ _; refine ⟨?_, ?_⟩) | (show keepK _ _ _ _ _; refine keepA ?_) | refine own_keep ?_ | refine ap_old ?_))
      conv => whnf
      have hel : (e.xs.length : Int) = 1 + o := by rw [hee.1]; omega
      exact ends_node (by first | exact List.mem_cons_self | exact List.mem_cons_of_mem _ List.mem_cons_self | (repeat (first | exact List.mem_cons_self | apply List.mem_cons_of_mem))) hk5 (fun _ _ h => h.1.1) (fun ρ w' hw => ⟨(⟨3, ((sv.l.length : Int) - 1 - r), 0, nilI, 0, 0, 0, d, e⟩, false), rfl, ⟨by rw [hia]; exact good_dense hi2 hgi huo hdd.2.2 hee.2.2 ⟨by omega, by omega⟩ (by rw [hel, hdd.1]; omega) hdd.2.1 hee.2.1 h24, fun h => (by cases h)⟩, ⟨fun _ => nilI_holds _ _, past_new hw (fun _ _ h => h.1.2), past_new hw (fun _ _ h => h.2)⟩⟩)
    · by_cases h3 : u.xs.length = 3
      · obtain ⟨_, p0, p00, p1, p2, _, p3, p4⟩ := dims3 huo h3
        obtain ⟨ua, hua⟩ : ∃ a, u.base = some a := base_some (j := 0) (rowsA_in (hsv.2 u hum)) (by rw [ints_length]; omega)
        have hur : ∀ (R : Nat → Prop) w', (restA w b).holds R w' → RowsI w' (some ua) 1 (ints u.xs) := fun R w' h => by rw [← hua]; exact rowsA_in ((rest_holds hsv h).2 u hum)
        (repeat' ((conv => whnf) <;> first | (show drawK _ 13 _ _ _ _ _ _; refine draw_tree tabOk mixed [] [] dtGY0 (by kernel_rfl) (by kernel_rfl) (by kernel_rfl) (List.nil_sublist _) ?_) | (show drawK _ 14 _ _ _ _ _ _; refine draw_tree tabOk mixed [25] _ dtGY1 (by kernel_rfl) (by kernel_rfl) (by kernel_rfl) (List.Sublist.cons_cons _ (List.Sublist.cons_cons _ (List.Sublist.cons _ (List.Sublist.refl _)))) ?_) | (show keepK _ _ _ _ _; refine keepB ?_) | (show idxK _ _ _ _ _; refine idx_of _ 0 hua rfl (by omega) ?_) | (show roK _ _ _; refine ro_int hur (j := 0) (by omega) ?_) | (show idxK _ _ _ _ _; refine idx_of _ 1 hua rfl (by omega) ?_) | (show roK _ _ _; refine ro_int hur (j := 1) (by omega) ?_) | (show idxK _ _ _ _ _; refine idx_of _ 2 hua rfl (by omega) ?_) | (show roK _ _ _; refine ro_int hur (j := 2) (by omega) ?_) | (show idxRowK _ _ _ _ _ _; (first | refine idxRow_of 0 rfl (show 0 < 4 by decide) (show 4 ≤ 4 by decide) ?_ | refine idxRow_of 1 rfl (show 1 < 4 by decide) (show 4 ≤ 4 by decide) ?_ | refine idxRow_of 2 rfl (show 2 < 4 by decide) (show 4 ≤ 4 by decide) ?_ | refine idxRow_of 3 rfl (show 3 < 4 by decide) (show 4 ≤ 4 by decide) ?_)) | (show rowK _ _ _ _; refine row_of _ _ rfl rfl ?_) | (show Wp _ _ _ _ _ _ _; refine Wp.go tabOk rfl ?_) | (show @cmpK _ _ _; (first | refine cmpY ?_ | refine cmpN ?_ | (refine cmp_both ?_ ?_ <;> intro _))) | (show wrapK _ _ _; refine wrapA ?_) | (show leK _ _ _; refine leA ?_) | (show roomK _ _ _; refine roomA ?_) | (show ltK _ _ _; refine ltA ?_) | (show _ ∧ _; refine ⟨?_, ?_⟩) | (show keepK _ _ _ _ _; refine keepA ?_) | refine own_keep ?_ | refine ap_old ?_))
        all_goals
          refine call_num (f := 41) [.int .i64 (2)] t k2 _ (by first | exact List.mem_cons_self | exact List.mem_cons_of_mem _ List.mem_cons_self | (repeat (first | exact List.mem_cons_self | apply List.mem_cons_of_mem))) Try.call41 hs hby hk2 (fun R w' h => rest_holds hd (by first | exact h | exact h.1 | exact h.1.1 | exact h.1.1.1)) (fun w' b' ht => next_any w' b' t k2 ht (2) ⟨by omega, by omega⟩) (fun c0 k3 hc0 hk3 => ?_)
          have hc00 := hc0.1
          have hc01 := hc0.2.1 (by omega)
          (repeat' ((conv => whnf) <;> first | (show drawK _ 13 _ _ _ _ _ _; refine draw_tree tabOk mixed [] [] dtGY0 (by kernel_rfl) (by kernel_rfl) (by kernel_rfl) (List.nil_sublist _) ?_) | (show drawK _ 14 _ _ _ _ _ _; refine draw_tree tabOk mixed [25] _ dtGY1 (by kernel_rfl) (by kernel_rfl) (by kernel_rfl) (List.Sublist.cons_cons _ (List.Sublist.cons_cons _ (List.Sublist.cons _ (List.Sublist.refl _)))) ?_) | (show keepK _ _ _ _ _; refine keepB ?_) | (show idxK _ _ _ _ _; refine idx_of _ 0 hua rfl (by omega) ?_) | (show roK _ _ _; refine ro_int hur (j := 0) (by omega) ?_) | (show idxK _ _ _ _ _; refine idx_of _ 1 hua rfl (by omega) ?_) | (show roK _ _ _; refine ro_int hur (j := 1) (by omega) ?_) | (show idxK _ _ _ _ _; refine idx_of _ 2 hua rfl (by omega) ?_) | (show roK _ _ _; refine ro_int hur (j := 2) (by omega) ?_) | (show idxRowK _ _ _ _ _ _; (first | refine idxRow_of 0 rfl (show 0 < 4 by decide) (show 4 ≤ 4 by decide) ?_ | refine idxRow_of 1 rfl (show 1 < 4 by decide) (show 4 ≤ 4 by decide) ?_ | refine idxRow_of 2 rfl (show 2 < 4 by decide) (show 4 ≤ 4 by decide) ?_ | refine idxRow_of 3 rfl (show 3 < 4 by decide) (show 4 ≤ 4 by decide) ?_)) | (show rowK _ _ _ _; refine row_of _ _ rfl rfl ?_) | (show Wp _ _ _ _ _ _ _; refine Wp.go tabOk rfl ?_) | (show @cmpK _ _ _; (first | refine cmpY ?_ | refine cmpN ?_ | (refine cmp_both ?_ ?_ <;> intro _))) | (show wrapK _ _ _; refine wrapA ?_) | (show leK _ _ _; refine leA ?_) | (show roomK _ _ _; refine roomA ?_) | (show ltK _ _ _; refine ltA ?_) | (show _ ∧ _; refine ⟨?_, ?_⟩) | (show keepK _ _ _ _ _; refine keepA ?_) | refine own_keep ?_ | refine ap_old ?_))
          first
            | refine call_num (f := 41) [.int .i64 (2)] t k3 _ (by first | exact List.mem_cons_self | exact List.mem_cons_of_mem _ List.mem_cons_self | (repeat (first | exact List.mem_cons_self | apply List.mem_cons_of_mem))) Try.call41 hs hby hk3 (fun R w' h => rest_holds hd (by first | exact h | exact h.1 | exact h.1.1 | exact h.1.1.1)) (fun w' b' ht => next_any w' b' t k3 ht (2) ⟨by omega, by omega⟩) (fun c1 k4 hc1 hk4 => ?_)
            | refine call_num (f := 41) [.int .i64 (u.xs.getD 1 0)] t k3 _ (by first | exact List.mem_cons_self | exact List.mem_cons_of_mem _ List.mem_cons_self | (repeat (first | exact List.mem_cons_self | apply List.mem_cons_of_mem))) Try.call41 hs hby hk3 (fun R w' h => rest_holds hd (by first | exact h | exact h.1 | exact h.1.1 | exact h.1.1.1)) (fun w' b' ht => next_any w' b' t k3 ht (u.xs.getD 1 0) ⟨by omega, by omega⟩) (fun c1 k4 hc1 hk4 => ?_)
          have hc11 : 0 ≤ c1 ∧ c1 < 2 ∧ c1 < u.xs.getD 1 0 := by have := hc1.1; have := hc1.2.1; have := hc1.2.2; omega
          (repeat' ((conv => whnf) <;> first | (show drawK _ 13 _ _ _ _ _ _; refine draw_tree tabOk mixed [] [] dtGY0 (by kernel_rfl) (by kernel_rfl) (by kernel_rfl) (List.nil_sublist _) ?_) | (show drawK _ 14 _ _ _ _ _ _; refine draw_tree tabOk mixed [25] _ dtGY1 (by kernel_rfl) (by kernel_rfl) (by kernel_rfl) (List.Sublist.cons_cons _ (List.Sublist.cons_cons _ (List.Sublist.cons _ (List.Sublist.refl _)))) ?_) | (show keepK _ _ _ _ _; refine keepB ?_) | (show idxK _ _ _ _ _; refine idx_of _ 0 hua rfl (by omega) ?_) | (show roK _ _ _; refine ro_int hur (j := 0) (by omega) ?_) | (show idxK _ _ _ _ _; refine idx_of _ 1 hua rfl (by omega) ?_) | (show roK _ _ _; refine ro_int hur (j := 1) (by omega) ?_) | (show idxK _ _ _ _ _; refine idx_of _ 2 hua rfl (by omega) ?_) | (show roK _ _ _; refine ro_int hur (j := 2) (by omega) ?_) | (show idxRowK _ _ _ _ _ _; (first | refine idxRow_of 0 rfl (show 0 < 4 by decide) (show 4 ≤ 4 by decide) ?_ | refine idxRow_of 1 rfl (show 1 < 4 by decide) (show 4 ≤ 4 by decide) ?_ | refine idxRow_of 2 rfl (show 2 < 4 by decide) (show 4 ≤ 4 by decide) ?_ | refine idxRow_of 3 rfl (show 3 < 4 by decide) (show 4 ≤ 4 by decide) ?_)) | (show rowK _ _ _ _; refine row_of _ _ rfl rfl ?_) | (show Wp _ _ _ _ _ _ _; refine Wp.go tabOk rfl ?_) | (show @cmpK _ _ _; (first | refine cmpY ?_ | refine cmpN ?_ | (refine cmp_both ?_ ?_ <;> intro _))) | (show wrapK _ _ _; refine wrapA ?_) | (show leK _ _ _; refine leA ?_) | (show roomK _ _ _; refine roomA ?_) | (show ltK _ _ _; refine ltA ?_) | (show _ ∧ _; refine ⟨?_, ?_⟩) | (show keepK _ _ _ _ _; refine keepA ?_) | refine own_keep ?_ | refine ap_old ?_))
          first
            | refine call_num (f := 41) [.int .i64 (2)] t k4 _ (by first | exact List.mem_cons_self | exact List.mem_cons_of_mem _ List.mem_cons_self | (repeat (first | exact List.mem_cons_self | apply List.mem_cons_of_mem))) Try.call41 hs hby hk4 (fun R w' h => rest_holds hd (by first | exact h | exact h.1 | exact h.1.1 | exact h.1.1.1)) (fun w' b' ht => next_any w' b' t k4 ht (2) ⟨by omega, by omega⟩) (fun c2 k5 hc2 hk5 => ?_)
            | refine call_num (f := 41) [.int .i64 (u.xs.getD 2 0)] t k4 _ (by first | exact List.mem_cons_self | exact List.mem_cons_of_mem _ List.mem_cons_self | (repeat (first | exact List.mem_cons_self | apply List.mem_cons_of_mem))) Try.call41 hs hby hk4 (fun R w' h => rest_holds hd (by first | exact h | exact h.1 | exact h.1.1 | exact h.1.1.1)) (fun w' b' ht => next_any w' b' t k4 ht (u.xs.getD 2 0) ⟨by omega, by omega⟩) (fun c2 k5 hc2 hk5 => ?_)
          have hc22 : 0 ≤ c2 ∧ c2 < 2 ∧ c2 < u.xs.getD 2 0 := by have := hc2.1; have := hc2.2.1; have := hc2.2.2; omega
          have m1 : (1 + c0) * u.xs.getD 0 0 ≤ 2 * 2 := Int.mul_le_mul (by omega) (by omega) (by omega) (by omega)
          have n1 : 1 * 1 ≤ (1 + c0) * u.xs.getD 0 0 := Int.mul_le_mul (by omega) (by omega) (by omega) (by omega)
          have m2 : (1 + c0) * u.xs.getD 0 0 * (1 + c1) ≤ 4 * 2 := Int.mul_le_mul m1 (by omega) (by omega) (by omega)
          have n2 : 1 * 1 ≤ (1 + c0) * u.xs.getD 0 0 * (1 + c1) := Int.mul_le_mul n1 (by omega) (by omega) (by omega)
          have m3 : (1 + c0) * u.xs.getD 0 0 * (1 + c1) * (1 + c2) ≤ 8 * 2 := Int.mul_le_mul m2 (by omega) (by omega) (by omega)
          have n3 : 1 * 1 ≤ (1 + c0) * u.xs.getD 0 0 * (1 + c1) * (1 + c2) := Int.mul_le_mul n2 (by omega) (by omega) (by omega)
          (repeat' ((conv => whnf) <;> first | (show drawK _ 13 _ _ _ _ _ _; refine draw_tree tabOk mixed [] [] dtGY0 (by kernel_rfl) (by kernel_rfl) (by kernel_rfl) (List.nil_sublist _) ?_) | (show drawK _ 14 _ _ _ _ _ _; refine draw_tree tabOk mixed [25] _ dtGY1 (by kernel_rfl) (by kernel_rfl) (by kernel_rfl) (List.Sublist.cons_cons _ (List.Sublist.cons_cons _ (List.Sublist.cons _ (List.Sublist.refl _)))) ?_) | (show keepK _ _ _ _ _; refine keepB ?_) | (show idxK _ _ _ _ _; refine idx_of _ 0 hua rfl (by omega) ?_) | (show roK _ _ _; refine ro_int hur (j := 0) (by omega) ?_) | (show idxK _ _ _ _ _; refine idx_of _ 1 hua rfl (by omega) ?_) | (show roK _ _ _; refine ro_int hur (j := 1) (by omega) ?_) | (show idxK _ _ _ _ _; refine idx_of _ 2 hua rfl (by omega) ?_) | (show roK _ _ _; refine ro_int hur (j := 2) (by omega) ?_) | (show idxRowK _ _ _ _ _ _; (first | refine idxRow_of 0 rfl (show 0 < 4 by decide) (show 4 ≤ 4 by decide) ?_ | refine idxRow_of 1 rfl (show 1 < 4 by decide) (show 4 ≤ 4 by decide) ?_ | refine idxRow_of 2 rfl (show 2 < 4 by decide) (show 4 ≤ 4 by decide) ?_ | refine idxRow_of 3 rfl (show 3 < 4 by decide) (show 4 ≤ 4 by decide) ?_)) | (show rowK _ _ _ _; refine row_of _ _ rfl rfl ?_) | (show Wp _ _ _ _ _ _ _; refine Wp.go tabOk rfl ?_) | (show @cmpK _ _ _; (first | refine cmpY ?_ | refine cmpN ?_ | (refine cmp_both ?_ ?_ <;> intro _))) | (show wrapK _ _ _; refine wrapA ?_) | (show leK _ _ _; refine leA ?_) | (show roomK _ _ _; refine roomA ?_) | (show ltK _ _ _; refine ltA ?_) | (show _ ∧ _; refine ⟨?_, ?_⟩) | (show keepK _ _ _ _ _; refine keepA ?_) | refine own_keep ?_ | refine ap_old ?_))
          refine call_t (f := 71) [.int .i64 ((1 + c0) * u.xs.getD 0 0 * (1 + c1) * (1 + c2))] t k5 IntsV.val intsA _ (by first | exact List.mem_cons_self | exact List.mem_cons_of_mem _ List.mem_cons_self | (repeat (first | exact List.mem_cons_self | apply List.mem_cons_of_mem))) Try.call71 hs hby hk5 (fun R w' h => rest_holds hd (by first | exact h | exact h.1 | exact h.1.1 | exact h.1.1.1)) (fun R w' b' ht _ _ => row_any w' b' t k5 ht ((1 + c0) * u.xs.getD 0 0 * (1 + c1) * (1 + c2)) (by omega) (by omega)) (fun d k6 hdd hk6 => ?_)
          (repeat' ((conv => whnf) <;> first | (show drawK _ 13 _ _ _ _ _ _; refine draw_tree tabOk mixed [] [] dtGY0 (by kernel_rfl) (by kernel_rfl) (by kernel_rfl) (List.nil_sublist _) ?_) | (show drawK _ 14 _ _ _ _ _ _; refine draw_tree tabOk mixed [25] _ dtGY1 (by kernel_rfl) (by kernel_rfl) (by kernel_rfl) (List.Sublist.cons_cons _ (List.Sublist.cons_cons _ (List.Sublist.cons _ (List.Sublist.refl _)))) ?_) | (show keepK _ _ _ _ _; refine keepB ?_) | (show idxK _ _ _ _ _; refine idx_of _ 0 hua rfl (by omega) ?_) | (show roK _ _ _; refine ro_int hur (j := 0) (by omega) ?_) | (show idxK _ _ _ _ _; refine idx_of _ 1 hua rfl (by omega) ?_) | (show roK _ _ _; refine ro_int hur (j := 1) (by omega) ?_) | (show idxK _ _ _ _ _; refine idx_of _ 2 hua rfl (by omega) ?_) | (show roK _ _ _; refine ro_int hur (j := 2) (by omega) ?_) | (show idxRowK _ _ _ _ _ _; (first | refine idxRow_of 0 rfl (show 0 < 4 by decide) (show 4 ≤ 4 by decide) ?_ | refine idxRow_of 1 rfl (show 1 < 4 by decide) (show 4 ≤ 4 by decide) ?_ | refine idxRow_of 2 rfl (show 2 < 4 by decide) (show 4 ≤ 4 by decide) ?_ | refine idxRow_of 3 rfl (show 3 < 4 by decide) (show 4 ≤ 4 by decide) ?_)) | (show rowK _ _ _ _; refine row_of _ _ rfl rfl ?_) | (show Wp _ _ _ _ _ _ _; refine Wp.go tabOk rfl ?_) | (show @cmpK _ _ _; (first | refine cmpY ?_ | refine cmpN ?_ | (refine cmp_both ?_ ?_ <;> intro _))) | (show wrapK _ _ _; refine wrapA ?_) | (show leK _ _ _; refine leA ?_) | (show roomK _ _ _; refine roomA ?_) | (show ltK _ _ _; refine ltA ?_) | (show _ ∧ _; refine ⟨?_, ?_⟩) | (show keepK _ _ _ _ _; refine keepA ?_) | refine own_keep ?_ | refine ap_old ?_))
          refine call_t (f := 71) [.int .i64 (1 + c0)] t k6 IntsV.val intsA _ (by first | exact List.mem_cons_self | exact List.mem_cons_of_mem _ List.mem_cons_self | (repeat (first | exact List.mem_cons_self | apply List.mem_cons_of_mem))) Try.call71 hs hby hk6 (fun R w' h => rest_holds hd (by first | exact h | exact h.1 | exact h.1.1 | exact h.1.1.1)) (fun R w' b' ht _ _ => row_any w' b' t k6 ht (1 + c0) (by omega) (by omega)) (fun e k7 hee hk7 => ?_)
          (repeat' ((conv => whnf) <;> first | (show drawK _ 13 _ _ _ _ _ _; refine draw_tree tabOk mixed [] [] dtGY0 (by kernel_rfl) (by kernel_rfl) (by kernel_rfl) (List.nil_sublist _) ?_) | (show drawK _ 14 _ _ _ _ _ _; refine draw_tree tabOk mixed [25] _ dtGY1 (by kernel_rfl) (by kernel_rfl) (by kernel_rfl) (List.Sublist.cons_cons _ (List.Sublist.cons_cons _ (List.Sublist.cons _ (List.Sublist.refl _)))) ?_) | (show keepK _ _ _ _ _; refine keepB ?_) | (show idxK _ _ _ _ _; refine idx_of _ 0 hua rfl (by omega) ?_) | (show roK _ _ _; refine ro_int hur (j := 0) (by omega) ?_) | (show idxK _ _ _ _ _; refine idx_of _ 1 hua rfl (by omega) ?_) | (show roK _ _ _; refine ro_int hur (j := 1) (by omega) ?_) | (show idxK _ _ _ _ _; refine idx_of _ 2 hua rfl (by omega) ?_) | (show roK _ _ _; refine ro_int hur (j := 2) (by omega) ?_) | (show idxRowK _ _ _ _ _ _; (first | refine idxRow_of 0 rfl (show 0 < 4 by decide) (show 4 ≤ 4 by decide) ?_ | refine idxRow_of 1 rfl (show 1 < 4 by decide) (show 4 ≤ 4 by decide) ?_ | refine idxRow_of 2 rfl (show 2 < 4 by decide) (show 4 ≤ 4 by decide) ?_ | refine idxRow_of 3 rfl (show 3 < 4 by decide) (show 4 ≤ 4 by decide) ?_)) | (show rowK _ _ _ _; refine row_of _ _ rfl rfl ?_) | (show Wp _ _ _ _ _ _ _; refine Wp.go tabOk rfl ?_) | (show @cmpK _ _ _; (first | refine cmpY ?_ | refine cmpN ?_ | (refine cmp_both ?_ ?_ <;> intro _))) | (show wrapK _ _ _; refine wrapA ?_) | (show leK _ _ _; refine leA ?_) | (show roomK _ _ _; refine roomA ?_) | (show ltK _ _ _; refine ltA ?_) | (show _ ∧ _; refine ⟨?_, ?_⟩) | (show keepK _ _ _ _ _; refine keepA ?_) | refine own_keep ?_ | refine ap_old ?_))
          conv => whnf
          exact ends_node (by first | exact List.mem_cons_self | exact List.mem_cons_of_mem _ List.mem_cons_self | (repeat (first | exact List.mem_cons_self | apply List.mem_cons_of_mem))) hk7 (fun _ _ h => h.1.1) (fun ρ w' hw => by
            obtain ⟨v, e1, e2, e3, e4⟩ := own_new (xs := [1 + c0, u.xs.getD 0 0, 1 + c1, 1 + c2]) hw (fun _ _ h => h.1.1) (by first | exact List.mem_cons_self | exact List.mem_cons_of_mem _ List.mem_cons_self | (repeat (first | exact List.mem_cons_self | apply List.mem_cons_of_mem))) (by first | exact List.mem_cons_self | exact List.mem_cons_of_mem _ List.mem_cons_self | (repeat (first | exact List.mem_cons_self | apply List.mem_cons_of_mem))) (by decide) rfl (by intro x hx; simp only [List.mem_cons, List.not_mem_nil, or_false] at hx; rcases hx with rfl | rfl | rfl | rfl <;> exact ⟨by omega, by omega⟩) (by simp)
            exact ⟨(⟨4, ((sv.l.length : Int) - 1 - r), 0, v, 0, 0, 0, d, e⟩, false), agg_shape e1, ⟨by rw [hia]; exact good_conv (k0 := 1 + c0) (k2 := 1 + c1) (k3 := 1 + c2) hi2 hgi huo h3 ⟨by omega, by omega⟩ ⟨by omega, by omega, by omega⟩ ⟨by omega, by omega, by omega⟩ e3 e2 hdd.2.2 hee.2.2 (by rw [hdd.1]; omega) (by rw [hee.1]; omega) hdd.2.1 hee.2.1 h24, fun h => (by cases h)⟩, ⟨fun _ => e4, past_new hw (fun _ _ h => h.1.2), past_new hw (fun _ _ h => h.2)⟩⟩)
      · (repeat' ((conv => whnf) <;> first | (show drawK _ 13 _ _ _ _ _ _; refine draw_tree tabOk mixed [] _ dtGY0 (by kernel_rfl) (by kernel_rfl) (by kernel_rfl) (List.Sublist.refl _) ?_) | (show drawK _ 14 _ _ _ _ _ _; refine draw_tree tabOk mixed [25] _ dtGY1 (by kernel_rfl) (by kernel_rfl) (by kernel_rfl) (List.Sublist.refl _) ?_) | (show Wp _ _ _ _ _ _ _; refine Wp.go tabOk rfl ?_) | (show @cmpK _ _ _; (first | refine cmpY ?_ | refine cmpN ?_ | (refine cmp_both ?_ ?_ <;> intro _))) | (show wrapK _ _ _; refine wrapA ?_) | (show leK _ _ _; refine leA ?_) | (show roomK _ _ _; refine roomA ?_) | (show ltK _ _ _; refine ltA ?_) | (show _ ∧ _; refine ⟨?_, ?_⟩) | (show keepK _ _ _ _ _; refine keepA ?_) | refine own_keep ?_ | refine ap_old ?_))
        refine call_num (f := 70) [] t k2 _ (by first | exact List.mem_cons_self | exact List.mem_cons_of_mem _ List.mem_cons_self | (repeat (first | exact List.mem_cons_self | apply List.mem_cons_of_mem))) Try.call70 hs hby hk2 (fun R w' h => rest_holds hd (by first | exact h | exact h.1 | exact h.1.1 | exact h.1.1.1)) (fun w' b' ht => small_any w' b' t k2 ht) (fun y ky hy hky => ?_)
        (repeat' ((conv => whnf) <;> first | (show drawK _ 13 _ _ _ _ _ _; refine draw_tree tabOk mixed [] _ dtGY0 (by kernel_rfl) (by kernel_rfl) (by kernel_rfl) (List.Sublist.refl _) ?_) | (show drawK _ 14 _ _ _ _ _ _; refine draw_tree tabOk mixed [25] _ dtGY1 (by kernel_rfl) (by kernel_rfl) (by kernel_rfl) (List.Sublist.refl _) ?_) | (show Wp _ _ _ _ _ _ _; refine Wp.go tabOk rfl ?_) | (show @cmpK _ _ _; (first | refine cmpY ?_ | refine cmpN ?_ | (refine cmp_both ?_ ?_ <;> intro _))) | (show wrapK _ _ _; refine wrapA ?_) | (show leK _ _ _; refine leA ?_) | (show roomK _ _ _; refine roomA ?_) | (show ltK _ _ _; refine ltA ?_) | (show _ ∧ _; refine ⟨?_, ?_⟩) | (show keepK _ _ _ _ _; refine keepA ?_) | refine own_keep ?_ | refine ap_old ?_))
        conv => whnf
        exact ends_node (by first | exact List.mem_cons_self | exact List.mem_cons_of_mem _ List.mem_cons_self | (repeat (first | exact List.mem_cons_self | apply List.mem_cons_of_mem))) hky (fun _ _ h => h) (fun ρ w' hw => by
          obtain ⟨d, e1, e2, e3, e4⟩ := own_new (xs := [y]) hw (fun _ _ h => h) (by first | exact List.mem_cons_self | exact List.mem_cons_of_mem _ List.mem_cons_self | (repeat (first | exact List.mem_cons_self | apply List.mem_cons_of_mem))) (by first | exact List.mem_cons_self | exact List.mem_cons_of_mem _ List.mem_cons_self | (repeat (first | exact List.mem_cons_self | apply List.mem_cons_of_mem))) (by decide) rfl (small_i64 (smallL1 hy)) (by simp)
          exact ⟨(⟨7, ((sv.l.length : Int) - 1 - r), 0, nilI, 0, 0, 0, d, nilI⟩, false), agg_data e1, ⟨by rw [hia]; exact good_scale hi2 hgi huo e3 (by rw [e2]; rfl) (e2 ▸ smallL1 hy) h24, fun h => (by cases h)⟩, ⟨fun _ => nilI_holds _ _, e4, nilI_holds _ _⟩⟩)
    · by_cases h3 : u.xs.length = 3
      · obtain ⟨_, _, _, p1, p2, _, p3, p4⟩ := dims3 huo h3
        obtain ⟨ua, hua⟩ : ∃ a, u.base = some a := base_some (j := 0) (rowsA_in (hsv.2 u hum)) (by rw [ints_length]; omega)
        have hur : ∀ (R : Nat → Prop) w', (restA w b).holds R w' → RowsI w' (some ua) 1 (ints u.xs) := fun R w' h => by rw [← hua]; exact rowsA_in ((rest_holds hsv h).2 u hum)
        by_cases hev : u.xs.getD 1 0 % 2 = 0 ∧ u.xs.getD 2 0 % 2 = 0
        · (repeat' ((conv => whnf) <;> first | (show idxK _ _ _ _ _; refine idx_of _ 0 hua rfl (by omega) ?_) | (show roK _ _ _; refine ro_int hur (j := 0) (by omega) ?_) | (show idxK _ _ _ _ _; refine idx_of _ 1 hua rfl (by omega) ?_) | (show roK _ _ _; refine ro_int hur (j := 1) (by omega) ?_) | (show idxK _ _ _ _ _; refine idx_of _ 2 hua rfl (by omega) ?_) | (show roK _ _ _; refine ro_int hur (j := 2) (by omega) ?_) | (show remK _ _ _; refine rem_pos (by omega) (by omega) ?_) | (show drawK _ 13 _ _ _ _ _ _; refine draw_tree tabOk mixed [] _ dtGY0 (by kernel_rfl) (by kernel_rfl) (by kernel_rfl) (List.Sublist.refl _) ?_) | (show drawK _ 14 _ _ _ _ _ _; refine draw_tree tabOk mixed [25] _ dtGY1 (by kernel_rfl) (by kernel_rfl) (by kernel_rfl) (List.Sublist.refl _) ?_) | (show Wp _ _ _ _ _ _ _; refine Wp.go tabOk rfl ?_) | (show @cmpK _ _ _; (first | refine cmpY ?_ | refine cmpN ?_ | (refine cmp_both ?_ ?_ <;> intro _))) | (show wrapK _ _ _; refine wrapA ?_) | (show leK _ _ _; refine leA ?_) | (show roomK _ _ _; refine roomA ?_) | (show ltK _ _ _; refine ltA ?_) | (show _ ∧ _; refine ⟨?_, ?_⟩) | (show keepK _ _ _ _ _; refine keepA ?_) | refine own_keep ?_ | refine ap_old ?_))
          conv => whnf
          exact ends_node (by first | exact List.mem_cons_self | exact List.mem_cons_of_mem _ List.mem_cons_self | (repeat (first | exact List.mem_cons_self | apply List.mem_cons_of_mem))) hk2 (fun _ _ h => h) (fun ρ w' hw => ⟨(⟨5, ((sv.l.length : Int) - 1 - r), 0, nilI, 0, 0, 2, nilI, nilI⟩, false), rfl, ⟨by rw [hia]; exact good_pool hi2 hgi huo h3 hev.1 hev.2 h24, fun h => (by cases h)⟩, ⟨fun _ => nilI_holds _ _, nilI_holds _ _, nilI_holds _ _⟩⟩)
        · (repeat' ((conv => whnf) <;> first | (show idxK _ _ _ _ _; refine idx_of _ 0 hua rfl (by omega) ?_) | (show roK _ _ _; refine ro_int hur (j := 0) (by omega) ?_) | (show idxK _ _ _ _ _; refine idx_of _ 1 hua rfl (by omega) ?_) | (show roK _ _ _; refine ro_int hur (j := 1) (by omega) ?_) | (show idxK _ _ _ _ _; refine idx_of _ 2 hua rfl (by omega) ?_) | (show roK _ _ _; refine ro_int hur (j := 2) (by omega) ?_) | (show remK _ _ _; refine rem_pos (by omega) (by omega) ?_) | (show drawK _ 13 _ _ _ _ _ _; refine draw_tree tabOk mixed [] _ dtGY0 (by kernel_rfl) (by kernel_rfl) (by kernel_rfl) (List.Sublist.refl _) ?_) | (show drawK _ 14 _ _ _ _ _ _; refine draw_tree tabOk mixed [25] _ dtGY1 (by kernel_rfl) (by kernel_rfl) (by kernel_rfl) (List.Sublist.refl _) ?_) | (show Wp _ _ _ _ _ _ _; refine Wp.go tabOk rfl ?_) | (show @cmpK _ _ _; (first | refine cmpY ?_ | refine cmpN ?_ | (refine cmp_both ?_ ?_ <;> intro _))) | (show wrapK _ _ _; refine wrapA ?_) | (show leK _ _ _; refine leA ?_) | (show roomK _ _ _; refine roomA ?_) | (show ltK _ _ _; refine ltA ?_) | (show _ ∧ _; refine ⟨?_, ?_⟩) | (show keepK _ _ _ _ _; refine keepA ?_) | refine own_keep ?_ | refine ap_old ?_))
          all_goals
            refine call_num (f := 70) [] t k2 _ (by first | exact List.mem_cons_self | exact List.mem_cons_of_mem _ List.mem_cons_self | (repeat (first | exact List.mem_cons_self | apply List.mem_cons_of_mem))) Try.call70 hs hby hk2 (fun R w' h => rest_holds hd (by first | exact h | exact h.1 | exact h.1.1 | exact h.1.1.1)) (fun w' b' ht => small_any w' b' t k2 ht) (fun y ky hy hky => ?_)
            (repeat' ((conv => whnf) <;> first | (show drawK _ 13 _ _ _ _ _ _; refine draw_tree tabOk mixed [] _ dtGY0 (by kernel_rfl) (by kernel_rfl) (by kernel_rfl) (List.Sublist.refl _) ?_) | (show drawK _ 14 _ _ _ _ _ _; refine draw_tree tabOk mixed [25] _ dtGY1 (by kernel_rfl) (by kernel_rfl) (by kernel_rfl) (List.Sublist.refl _) ?_) | (show Wp _ _ _ _ _ _ _; refine Wp.go tabOk rfl ?_) | (show @cmpK _ _ _; (first | refine cmpY ?_ | refine cmpN ?_ | (refine cmp_both ?_ ?_ <;> intro _))) | (show wrapK _ _ _; refine wrapA ?_) | (show leK _ _ _; refine leA ?_) | (show roomK _ _ _; refine roomA ?_) | (show ltK _ _ _; refine ltA ?_) | (show _ ∧ _; refine ⟨?_, ?_⟩) | (show keepK _ _ _ _ _; refine keepA ?_) | refine own_keep ?_ | refine ap_old ?_))
            conv => whnf
            exact ends_node (by first | exact List.mem_cons_self | exact List.mem_cons_of_mem _ List.mem_cons_self | (repeat (first | exact List.mem_cons_self | apply List.mem_cons_of_mem))) hky (fun _ _ h => h) (fun ρ w' hw => by
              obtain ⟨d, e1, e2, e3, e4⟩ := own_new (xs := [y]) hw (fun _ _ h => h) (by first | exact List.mem_cons_self | exact List.mem_cons_of_mem _ List.mem_cons_self | (repeat (first | exact List.mem_cons_self | apply List.mem_cons_of_mem))) (by first | exact List.mem_cons_self | exact List.mem_cons_of_mem _ List.mem_cons_self | (repeat (first | exact List.mem_cons_self | apply List.mem_cons_of_mem))) (by decide) rfl (small_i64 (smallL1 hy)) (by simp)
              exact ⟨(⟨7, ((sv.l.length : Int) - 1 - r), 0, nilI, 0, 0, 0, d, nilI⟩, false), agg_data e1, ⟨by rw [hia]; exact good_scale hi2 hgi huo e3 (by rw [e2]; rfl) (e2 ▸ smallL1 hy) h24, fun h => (by cases h)⟩, ⟨fun _ => nilI_holds _ _, e4, nilI_holds _ _⟩⟩)
      · (repeat' ((conv => whnf) <;> first | (show drawK _ 13 _ _ _ _ _ _; refine draw_tree tabOk mixed [] _ dtGY0 (by kernel_rfl) (by kernel_rfl) (by kernel_rfl) (List.Sublist.refl _) ?_) | (show drawK _ 14 _ _ _ _ _ _; refine draw_tree tabOk mixed [25] _ dtGY1 (by kernel_rfl) (by kernel_rfl) (by kernel_rfl) (List.Sublist.refl _) ?_) | (show Wp _ _ _ _ _ _ _; refine Wp.go tabOk rfl ?_) | (show @cmpK _ _ _; (first | refine cmpY ?_ | refine cmpN ?_ | (refine cmp_both ?_ ?_ <;> intro _))) | (show wrapK _ _ _; refine wrapA ?_) | (show leK _ _ _; refine leA ?_) | (show roomK _ _ _; refine roomA ?_) | (show ltK _ _ _; refine ltA ?_) | (show _ ∧ _; refine ⟨?_, ?_⟩) | (show keepK _ _ _ _ _; refine keepA ?_) | refine own_keep ?_ | refine ap_old ?_))
        refine call_num (f := 70) [] t k2 _ (by first | exact List.mem_cons_self | exact List.mem_cons_of_mem _ List.mem_cons_self | (repeat (first | exact List.mem_cons_self | apply List.mem_cons_of_mem))) Try.call70 hs hby hk2 (fun R w' h => rest_holds hd (by first | exact h | exact h.1 | exact h.1.1 | exact h.1.1.1)) (fun w' b' ht => small_any w' b' t k2 ht) (fun y ky hy hky => ?_)
        (repeat' ((conv => whnf) <;> first | (show drawK _ 13 _ _ _ _ _ _; refine draw_tree tabOk mixed [] _ dtGY0 (by kernel_rfl) (by kernel_rfl) (by kernel_rfl) (List.Sublist.refl _) ?_) | (show drawK _ 14 _ _ _ _ _ _; refine draw_tree tabOk mixed [25] _ dtGY1 (by kernel_rfl) (by kernel_rfl) (by kernel_rfl) (List.Sublist.refl _) ?_) | (show Wp _ _ _ _ _ _ _; refine Wp.go tabOk rfl ?_) | (show @cmpK _ _ _; (first | refine cmpY ?_ | refine cmpN ?_ | (refine cmp_both ?_ ?_ <;> intro _))) | (show wrapK _ _ _; refine wrapA ?_) | (show leK _ _ _; refine leA ?_) | (show roomK _ _ _; refine roomA ?_) | (show ltK _ _ _; refine ltA ?_) | (show _ ∧ _; refine ⟨?_, ?_⟩) | (show keepK _ _ _ _ _; refine keepA ?_) | refine own_keep ?_ | refine ap_old ?_))
        conv => whnf
        exact ends_node (by first | exact List.mem_cons_self | exact List.mem_cons_of_mem _ List.mem_cons_self | (repeat (first | exact List.mem_cons_self | apply List.mem_cons_of_mem))) hky (fun _ _ h => h) (fun ρ w' hw => by
          obtain ⟨d, e1, e2, e3, e4⟩ := own_new (xs := [y]) hw (fun _ _ h => h) (by first | exact List.mem_cons_self | exact List.mem_cons_of_mem _ List.mem_cons_self | (repeat (first | exact List.mem_cons_self | apply List.mem_cons_of_mem))) (by first | exact List.mem_cons_self | exact List.mem_cons_of_mem _ List.mem_cons_self | (repeat (first | exact List.mem_cons_self | apply List.mem_cons_of_mem))) (by decide) rfl (small_i64 (smallL1 hy)) (by simp)
          exact ⟨(⟨7, ((sv.l.length : Int) - 1 - r), 0, nilI, 0, 0, 0, d, nilI⟩, false), agg_data e1, ⟨by rw [hia]; exact good_scale hi2 hgi huo e3 (by rw [e2]; rfl) (e2 ▸ smallL1 hy) h24, fun h => (by cases h)⟩, ⟨fun _ => nilI_holds _ _, e4, nilI_holds _ _⟩⟩)
    · (repeat' ((conv => whnf) <;> first | (show drawK _ 13 _ _ _ _ _ _; refine draw_tree tabOk mixed [] _ dtGY0 (by kernel_rfl) (by kernel_rfl) (by kernel_rfl) (List.Sublist.refl _) ?_) | (show drawK _ 14 _ _ _ _ _ _; refine draw_tree tabOk mixed [25] _ dtGY1 (by kernel_rfl) (by kernel_rfl) (by kernel_rfl) (List.Sublist.refl _) ?_) | (show Wp _ _ _ _ _ _ _; refine Wp.go tabOk rfl ?_) | (show @cmpK _ _ _; (first | refine cmpY ?_ | refine cmpN ?_ | (refine cmp_both ?_ ?_ <;> intro _))) | (show wrapK _ _ _; refine wrapA ?_) | (show leK _ _ _; refine leA ?_) | (show roomK _ _ _; refine roomA ?_) | (show ltK _ _ _; refine ltA ?_) | (show _ ∧ _; refine ⟨?_, ?_⟩) | (show keepK _ _ _ _ _; refine keepA ?_) | refine own_keep ?_ | refine ap_old ?_))
      refine Wp.loop (σ := Nat × Nat) 2 (fun ⟨j, _⟩ => [(126, .c (.int .i64 sv.l.length)), (127, .c (.int .i64 j)), (0, .lp 0 0 0 0), (1, .c sv.val), (6, .c u.val), (5, .c (.int .i64 ((sv.l.length : Int) - 1 - r))), (4, .lp 1 0 0 0)]) (fun ⟨_, kt⟩ => [(1, .box (cs [.int .i64 0, .int .i64 0, .int .i64 0, .slice none 0 0, .int .i64 0, .int .i64 0, .int .i64 0, .slice none 0 0, .slice none 0 0]) 38), (0, .box (cs (tcells t kt)) 30)]) (fun _ => restA w b)
        (fun ⟨j, kt⟩ => j ≤ sv.l.length ∧ kt ≤ t.bs.length) (fun s => sv.l.length - s.1) (0, k2) [] (by decide) (fun s => ⟨rfl, rfl⟩) ⟨by simp, hk2⟩ ⟨rfl, ⟨rfl, rfl, rfl, rfl, rfl, rfl, rfl, trivial⟩, ⟨List.mem_cons_self, List.mem_cons_of_mem _ List.mem_cons_self, trivial⟩, fun _ _ h => h⟩ ?_
      rintro ⟨j, kt⟩ ⟨hj, hkt⟩
      by_cases hlt : j < sv.l.length
      · have hgj := shapes_get hlt
        have hvm := List.getElem_mem hlt
        have hrowj := shRows_get hlt
        generalize sv.l[j] = v at *
        have hj2 : j < (sv.l.map (·.xs)).length := by rw [hlm]; exact hlt
        (repeat' ((conv => whnf) <;> first | (show idxK _ _ _ _ _; refine idx_of sb j hsb rfl hlt ?_) | (show roK _ _ _; (refine ro_row0 (fun R w' h => by rw [← hsb]; exact rowsA_in (rest_holds hsv h).1) _ _ hrowj rfl ?_)) | (show callK _ 26 _ _ _ _ _; ((refine call_bool (f := 26) Try.call26 _ (fun ρ w' hw => same_any w' v u (holds_of_abs hw fun R h => intsA_ok (hsane v hvm) ((rest_holds hsv h).2 v hvm)) (holds_of_abs hw fun R h => intsA_ok hus ((rest_holds hsv h).2 u hum))) ?_ ?_ <;> intro he))) | (show callK _ 41 _ _ _ _ _; (refine call_num (f := 41) [.int .i64 2] t kt _ (by first | exact List.mem_cons_self | exact List.mem_cons_of_mem _ List.mem_cons_self | (repeat (first | exact List.mem_cons_self | apply List.mem_cons_of_mem))) Try.call41 hs hby hkt (fun R w' h => rest_holds hd (by first | exact h | exact h.1 | exact h.1.1 | exact h.1.1.1)) (fun w' b' ht => next_any w' b' t kt ht 2 ⟨by decide, by decide⟩) (fun z k3 hz hk3 => ?_))) | (show drawK _ 13 _ _ _ _ _ _; refine draw_tree tabOk mixed [] _ dtGY0 (by kernel_rfl) (by kernel_rfl) (by kernel_rfl) (List.Sublist.refl _) ?_) | (show drawK _ 14 _ _ _ _ _ _; refine draw_tree tabOk mixed [25] _ dtGY1 (by kernel_rfl) (by kernel_rfl) (by kernel_rfl) (List.Sublist.refl _) ?_) | (show Wp _ _ _ _ _ _ _; refine Wp.go tabOk rfl ?_) | (show @cmpK _ _ _; (first | refine cmpY ?_ | refine cmpN ?_ | (refine cmp_both ?_ ?_ <;> intro _))) | (show wrapK _ _ _; refine wrapA ?_) | (show leK _ _ _; refine leA ?_) | (show roomK _ _ _; refine roomA ?_) | (show ltK _ _ _; refine ltA ?_) | (show _ ∧ _; refine ⟨?_, ?_⟩) | (show keepK _ _ _ _ _; refine keepA ?_) | refine own_keep ?_ | refine ap_old ?_))
        · conv => whnf
          exact ends_node (by first | exact List.mem_cons_self | exact List.mem_cons_of_mem _ List.mem_cons_self | (repeat (first | exact List.mem_cons_self | apply List.mem_cons_of_mem))) hk3 (fun _ _ h => h) (fun ρ w' hw => ⟨(⟨6, ((sv.l.length : Int) - 1 - r), j, nilI, 0, 0, 0, nilI, nilI⟩, false), rfl, ⟨by rw [hia]; exact good_add hi2 hj2 hgi (hgj.trans (of_decide_eq_true he)) huo h24, fun h => (by cases h)⟩, ⟨fun _ => nilI_holds _ _, nilI_holds _ _, nilI_holds _ _⟩⟩)
        · exact ⟨(j + 1, k3), [], ⟨hlt, hk3⟩, by simp only; omega, rfl, ⟨rfl, rfl, rfl, rfl, rfl, rfl, rfl, trivial⟩, ⟨List.mem_cons_self, List.mem_cons_of_mem _ List.mem_cons_self, trivial⟩, fun _ _ h => h⟩
        · exact ⟨(j + 1, kt), [], ⟨hlt, hkt⟩, by simp only; omega, rfl, ⟨rfl, rfl, rfl, rfl, rfl, rfl, rfl, trivial⟩, ⟨List.mem_cons_self, List.mem_cons_of_mem _ List.mem_cons_self, trivial⟩, fun _ _ h => h⟩
      · (repeat' ((conv => whnf) <;> first | (show drawK _ 13 _ _ _ _ _ _; refine draw_tree tabOk mixed [] _ dtGY0 (by kernel_rfl) (by kernel_rfl) (by kernel_rfl) (List.Sublist.refl _) ?_) | (show drawK _ 14 _ _ _ _ _ _; refine draw_tree tabOk mixed [25] _ dtGY1 (by kernel_rfl) (by kernel_rfl) (by kernel_rfl) (List.Sublist.refl _) ?_) | (show Wp _ _ _ _ _ _ _; refine Wp.go tabOk rfl ?_) | (show @cmpK _ _ _; (first | refine cmpY ?_ | refine cmpN ?_ | (refine cmp_both ?_ ?_ <;> intro _))) | (show wrapK _ _ _; refine wrapA ?_) | (show leK _ _ _; refine leA ?_) | (show roomK _ _ _; refine roomA ?_) | (show ltK _ _ _; refine ltA ?_) | (show _ ∧ _; refine ⟨?_, ?_⟩) | (show keepK _ _ _ _ _; refine keepA ?_) | refine own_keep ?_ | refine ap_old ?_))
        conv => whnf
        exact ends_node (by first | exact List.mem_cons_self | exact List.mem_cons_of_mem _ List.mem_cons_self | (repeat (first | exact List.mem_cons_self | apply List.mem_cons_of_mem))) hkt (fun _ _ h => h) (fun ρ w' hw => ⟨(⟨6, ((sv.l.length : Int) - 1 - r), ((sv.l.length : Int) - 1 - r), nilI, 0, 0, 0, nilI, nilI⟩, false), rfl, ⟨by rw [hia]; exact good_add hi2 hi2 hgi hgi huo h24, fun h => (by cases h)⟩, ⟨fun _ => nilI_holds _ _, nilI_holds _ _, nilI_holds _ _⟩⟩)
    · (repeat' ((conv => whnf) <;> first | (show drawK _ 13 _ _ _ _ _ _; refine draw_tree tabOk mixed [] _ dtGY0 (by kernel_rfl) (by kernel_rfl) (by kernel_rfl) (List.Sublist.refl _) ?_) | (show drawK _ 14 _ _ _ _ _ _; refine draw_tree tabOk mixed [25] _ dtGY1 (by kernel_rfl) (by kernel_rfl) (by kernel_rfl) (List.Sublist.refl _) ?_) | (show Wp _ _ _ _ _ _ _; refine Wp.go tabOk rfl ?_) | (show @cmpK _ _ _; (first | refine cmpY ?_ | refine cmpN ?_ | (refine cmp_both ?_ ?_ <;> intro _))) | (show wrapK _ _ _; refine wrapA ?_) | (show leK _ _ _; refine leA ?_) | (show roomK _ _ _; refine roomA ?_) | (show ltK _ _ _; refine ltA ?_) | (show _ ∧ _; refine ⟨?_, ?_⟩) | (show keepK _ _ _ _ _; refine keepA ?_) | refine own_keep ?_ | refine ap_old ?_))
      refine call_num (f := 70) [] t k2 _ (by first | exact List.mem_cons_self | exact List.mem_cons_of_mem _ List.mem_cons_self | (repeat (first | exact List.mem_cons_self | apply List.mem_cons_of_mem))) Try.call70 hs hby hk2 (fun R w' h => rest_holds hd (by first | exact h | exact h.1 | exact h.1.1 | exact h.1.1.1)) (fun w' b' ht => small_any w' b' t k2 ht) (fun x k3 hx hk3 => ?_)
      (repeat' ((conv => whnf) <;> first | (show drawK _ 13 _ _ _ _ _ _; refine draw_tree tabOk mixed [] _ dtGY0 (by kernel_rfl) (by kernel_rfl) (by kernel_rfl) (List.Sublist.refl _) ?_) | (show drawK _ 14 _ _ _ _ _ _; refine draw_tree tabOk mixed [25] _ dtGY1 (by kernel_rfl) (by kernel_rfl) (by kernel_rfl) (List.Sublist.refl _) ?_) | (show Wp _ _ _ _ _ _ _; refine Wp.go tabOk rfl ?_) | (show @cmpK _ _ _; (first | refine cmpY ?_ | refine cmpN ?_ | (refine cmp_both ?_ ?_ <;> intro _))) | (show wrapK _ _ _; refine wrapA ?_) | (show leK _ _ _; refine leA ?_) | (show roomK _ _ _; refine roomA ?_) | (show ltK _ _ _; refine ltA ?_) | (show _ ∧ _; refine ⟨?_, ?_⟩) | (show keepK _ _ _ _ _; refine keepA ?_) | refine own_keep ?_ | refine ap_old ?_))
      refine call_num (f := 70) [] t k3 _ (by first | exact List.mem_cons_self | exact List.mem_cons_of_mem _ List.mem_cons_self | (repeat (first | exact List.mem_cons_self | apply List.mem_cons_of_mem))) Try.call70 hs hby hk3 (fun R w' h => rest_holds hd (by first | exact h | exact h.1 | exact h.1.1 | exact h.1.1.1)) (fun w' b' ht => small_any w' b' t k3 ht) (fun y k4 hy hk4 => ?_)
      (repeat' ((conv => whnf) <;> first | (show drawK _ 13 _ _ _ _ _ _; refine draw_tree tabOk mixed [] _ dtGY0 (by kernel_rfl) (by kernel_rfl) (by kernel_rfl) (List.Sublist.refl _) ?_) | (show drawK _ 14 _ _ _ _ _ _; refine draw_tree tabOk mixed [25] _ dtGY1 (by kernel_rfl) (by kernel_rfl) (by kernel_rfl) (List.Sublist.refl _) ?_) | (show Wp _ _ _ _ _ _ _; refine Wp.go tabOk rfl ?_) | (show @cmpK _ _ _; (first | refine cmpY ?_ | refine cmpN ?_ | (refine cmp_both ?_ ?_ <;> intro _))) | (show wrapK _ _ _; refine wrapA ?_) | (show leK _ _ _; refine leA ?_) | (show roomK _ _ _; refine roomA ?_) | (show ltK _ _ _; refine ltA ?_) | (show _ ∧ _; refine ⟨?_, ?_⟩) | (show keepK _ _ _ _ _; refine keepA ?_) | refine own_keep ?_ | refine ap_old ?_))
      refine call_num (f := 41) [.int .i64 3] t k4 _ (by first | exact List.mem_cons_self | exact List.mem_cons_of_mem _ List.mem_cons_self | (repeat (first | exact List.mem_cons_self | apply List.mem_cons_of_mem))) Try.call41 hs hby hk4 (fun R w' h => rest_holds hd (by first | exact h | exact h.1 | exact h.1.1 | exact h.1.1.1)) (fun w' b' ht => next_any w' b' t k4 ht 3 ⟨by omega, by omega⟩) (fun z k5 hz hk5 => ?_)
      have hz0 := hz.1
      have hz1 := hz.2.1 (by omega)
      have hz2 : -4 ≤ z - 1 ∧ z - 1 ≤ 4 := by omega
      (repeat' ((conv => whnf) <;> first | (show drawK _ 13 _ _ _ _ _ _; refine draw_tree tabOk mixed [] _ dtGY0 (by kernel_rfl) (by kernel_rfl) (by kernel_rfl) (List.Sublist.refl _) ?_) | (show drawK _ 14 _ _ _ _ _ _; refine draw_tree tabOk mixed [25] _ dtGY1 (by kernel_rfl) (by kernel_rfl) (by kernel_rfl) (List.Sublist.refl _) ?_) | (show Wp _ _ _ _ _ _ _; refine Wp.go tabOk rfl ?_) | (show @cmpK _ _ _; (first | refine cmpY ?_ | refine cmpN ?_ | (refine cmp_both ?_ ?_ <;> intro _))) | (show wrapK _ _ _; refine wrapA ?_) | (show leK _ _ _; refine leA ?_) | (show roomK _ _ _; refine roomA ?_) | (show ltK _ _ _; refine ltA ?_) | (show _ ∧ _; refine ⟨?_, ?_⟩) | (show keepK _ _ _ _ _; refine keepA ?_) | refine own_keep ?_ | refine ap_old ?_))
      conv => whnf
      exact ends_node (by first | exact List.mem_cons_self | exact List.mem_cons_of_mem _ List.mem_cons_self | (repeat (first | exact List.mem_cons_self | apply List.mem_cons_of_mem))) hk5 (fun _ _ h => h) (fun ρ w' hw => by
        obtain ⟨d, e1, e2, e3, e4⟩ := own_new (xs := [x, y, z - 1]) hw (fun _ _ h => h) (by first | exact List.mem_cons_self | exact List.mem_cons_of_mem _ List.mem_cons_self | (repeat (first | exact List.mem_cons_self | apply List.mem_cons_of_mem))) (by first | exact List.mem_cons_self | exact List.mem_cons_of_mem _ List.mem_cons_self | (repeat (first | exact List.mem_cons_self | apply List.mem_cons_of_mem))) (by decide) rfl (small_i64 (smallL3 hx hy hz2)) (by simp)
        exact ⟨(⟨8, ((sv.l.length : Int) - 1 - r), 0, nilI, 0, 0, 0, d, nilI⟩, false), agg_data e1, ⟨by rw [hia]; exact good_power hi2 hgi huo e3 (by rw [e2]; rfl) (e2 ▸ smallL3 hx hy hz2) h24, fun h => (by cases h)⟩, ⟨fun _ => nilI_holds _ _, e4, nilI_holds _ _⟩⟩)
    · (repeat' ((conv => whnf) <;> first | (show drawK _ 13 _ _ _ _ _ _; refine draw_tree tabOk mixed [] _ dtGY0 (by kernel_rfl) (by kernel_rfl) (by kernel_rfl) (List.Sublist.refl _) ?_) | (show drawK _ 14 _ _ _ _ _ _; refine draw_tree tabOk mixed [25] _ dtGY1 (by kernel_rfl) (by kernel_rfl) (by kernel_rfl) (List.Sublist.refl _) ?_) | (show Wp _ _ _ _ _ _ _; refine Wp.go tabOk rfl ?_) | (show @cmpK _ _ _; (first | refine cmpY ?_ | refine cmpN ?_ | (refine cmp_both ?_ ?_ <;> intro _))) | (show wrapK _ _ _; refine wrapA ?_) | (show leK _ _ _; refine leA ?_) | (show roomK _ _ _; refine roomA ?_) | (show ltK _ _ _; refine ltA ?_) | (show _ ∧ _; refine ⟨?_, ?_⟩) | (show keepK _ _ _ _ _; refine keepA ?_) | refine own_keep ?_ | refine ap_old ?_))
      conv => whnf
      exact ends_node (by first | exact List.mem_cons_self | exact List.mem_cons_of_mem _ List.mem_cons_self | (repeat (first | exact List.mem_cons_self | apply List.mem_cons_of_mem))) hk2 (fun _ _ h => h) (fun ρ w' hw => by
        obtain ⟨d, e1, e2, e3, e4⟩ := own_new (xs := [entries u.xs]) hw (fun _ _ h => h) (by first | exact List.mem_cons_self | exact List.mem_cons_of_mem _ List.mem_cons_self | (repeat (first | exact List.mem_cons_self | apply List.mem_cons_of_mem))) (by first | exact List.mem_cons_self | exact List.mem_cons_of_mem _ List.mem_cons_self | (repeat (first | exact List.mem_cons_self | apply List.mem_cons_of_mem))) (by decide) rfl (by intro x hx; rw [List.mem_singleton] at hx; subst hx; exact ⟨by omega, by omega⟩) (by simp)
        exact ⟨(⟨9, ((sv.l.length : Int) - 1 - r), 0, d, 0, 0, 0, nilI, nilI⟩, false), agg_shape e1, ⟨by rw [hia]; exact good_flat hi2 hgi huo e3 e2 h24, fun h => (by cases h)⟩, ⟨fun _ => e4, nilI_holds _ _, nilI_holds _ _⟩⟩)
    · (repeat' ((conv => whnf) <;> first | (show drawK _ 13 _ _ _ _ _ _; refine draw_tree tabOk mixed [] _ dtGY0 (by kernel_rfl) (by kernel_rfl) (by kernel_rfl) (List.Sublist.refl _) ?_) | (show drawK _ 14 _ _ _ _ _ _; refine draw_tree tabOk mixed [25] _ dtGY1 (by kernel_rfl) (by kernel_rfl) (by kernel_rfl) (List.Sublist.refl _) ?_) | (show Wp _ _ _ _ _ _ _; refine Wp.go tabOk rfl ?_) | (show @cmpK _ _ _; (first | refine cmpY ?_ | refine cmpN ?_ | (refine cmp_both ?_ ?_ <;> intro _))) | (show wrapK _ _ _; refine wrapA ?_) | (show leK _ _ _; refine leA ?_) | (show roomK _ _ _; refine roomA ?_) | (show ltK _ _ _; refine ltA ?_) | (show _ ∧ _; refine ⟨?_, ?_⟩) | (show keepK _ _ _ _ _; refine keepA ?_) | refine own_keep ?_ | refine ap_old ?_))
      refine call_num (f := 70) [] t k2 _ (by first | exact List.mem_cons_self | exact List.mem_cons_of_mem _ List.mem_cons_self | (repeat (first | exact List.mem_cons_self | apply List.mem_cons_of_mem))) Try.call70 hs hby hk2 (fun R w' h => rest_holds hd (by first | exact h | exact h.1 | exact h.1.1 | exact h.1.1.1)) (fun w' b' ht => small_any w' b' t k2 ht) (fun y ky hy hky => ?_)
      (repeat' ((conv => whnf) <;> first | (show drawK _ 13 _ _ _ _ _ _; refine draw_tree tabOk mixed [] _ dtGY0 (by kernel_rfl) (by kernel_rfl) (by kernel_rfl) (List.Sublist.refl _) ?_) | (show drawK _ 14 _ _ _ _ _ _; refine draw_tree tabOk mixed [25] _ dtGY1 (by kernel_rfl) (by kernel_rfl) (by kernel_rfl) (List.Sublist.refl _) ?_) | (show Wp _ _ _ _ _ _ _; refine Wp.go tabOk rfl ?_) | (show @cmpK _ _ _; (first | refine cmpY ?_ | refine cmpN ?_ | (refine cmp_both ?_ ?_ <;> intro _))) | (show wrapK _ _ _; refine wrapA ?_) | (show leK _ _ _; refine leA ?_) | (show roomK _ _ _; refine roomA ?_) | (show ltK _ _ _; refine ltA ?_) | (show _ ∧ _; refine ⟨?_, ?_⟩) | (show keepK _ _ _ _ _; refine keepA ?_) | refine own_keep ?_ | refine ap_old ?_))
      conv => whnf
      exact ends_node (by first | exact List.mem_cons_self | exact List.mem_cons_of_mem _ List.mem_cons_self | (repeat (first | exact List.mem_cons_self | apply List.mem_cons_of_mem))) hky (fun _ _ h => h) (fun ρ w' hw => by
        obtain ⟨d, e1, e2, e3, e4⟩ := own_new (xs := [y]) hw (fun _ _ h => h) (by first | exact List.mem_cons_self | exact List.mem_cons_of_mem _ List.mem_cons_self | (repeat (first | exact List.mem_cons_self | apply List.mem_cons_of_mem))) (by first | exact List.mem_cons_self | exact List.mem_cons_of_mem _ List.mem_cons_self | (repeat (first | exact List.mem_cons_self | apply List.mem_cons_of_mem))) (by decide) rfl (small_i64 (smallL1 hy)) (by simp)
        exact ⟨(⟨7, ((sv.l.length : Int) - 1 - r), 0, nilI, 0, 0, 0, d, nilI⟩, false), agg_data e1, ⟨by rw [hia]; exact good_scale hi2 hgi huo e3 (by rw [e2]; rfl) (e2 ▸ smallL1 hy) h24, fun h => (by cases h)⟩, ⟨fun _ => nilI_holds _ _, e4, nilI_holds _ _⟩⟩)
end Go.Proofs.Ytdmkdogakbipbaa

/- GZ -/
namespace Go.Proofs.Ytdmkdogakbipbaa
open Go.SX Go.RowKit
theorem checkR_snoc : ∀ {l : List NodeV} {sh0 sh : List (List Int)} {n : NodeV} {s : List Int}, checkR l sh0 = (0, sh) → formB n sh.length = true → shapeO n sh = some s → nearB n = true → checkR (l ++ [n]) sh0 = (0, sh ++ [s])
  | [], sh0, sh, n, s, h, h1, h2, h3 => by
    obtain rfl : sh0 = sh := by simpa [checkR] using h
    rw [List.nil_append, checkR_next h1 h2 h3]; rfl
  | m :: r, sh0, sh, n, s, h, h1, h2, h3 => by
    by_cases hf : formB m sh0.length = false
    · rw [checkR_form hf] at h; simp at h
    have hf : formB m sh0.length = true := by simpa using hf
    cases hs : shapeO m sh0 with
    | none => rw [checkR_shape hf hs] at h; simp at h
    | some q =>
      by_cases hn : nearB m = false
      · rw [checkR_near hf hs hn] at h; simp at h
      have hn : nearB m = true := by simpa using hn
      rw [checkR_next hf hs hn] at h
      rw [List.cons_append, checkR_next hf hs hn]
      exact checkR_snoc h h1 h2 h3
theorem checkR_length : ∀ (l : List NodeV) (sh : List (List Int)), (checkR l sh).1 = 0 → (checkR l sh).2.length = sh.length + l.length
  | [], sh, _ => by simp [checkR]
  | n :: r, sh, h => by
    by_cases hf : formB n sh.length = false
    · rw [checkR_form hf] at h; simp at h
    have hf : formB n sh.length = true := by simpa using hf
    cases hs : shapeO n sh with
    | none => rw [checkR_shape hf hs] at h; simp at h
    | some s =>
      by_cases hn : nearB n = false
      · rw [checkR_near hf hs hn] at h; simp at h
      have hn : nearB n = true := by simpa using hn
      rw [checkR_next hf hs hn] at h ⊢
      rw [checkR_length r _ h]
      simp; omega
structure MadeL (l : List NodeV) : Prop where
  one : 1 ≤ l.length
  shapes : ∃ sh, checkR l [] = (0, sh) ∧ ∀ s ∈ sh, ShOk s
  each : ∀ n ∈ l, Made n
theorem madeL_snoc {l : List NodeV} {n : NodeV} {sh : List (List Int)} (h : MadeL l) (hsh : checkR l [] = (0, sh)) (hn : GoodNode n sh) (hok : ∀ s ∈ sh, ShOk s) : MadeL (l ++ [n]) := by
  obtain ⟨s, hs, hso⟩ := hn.shape
  refine ⟨by simp, ⟨sh ++ [s], checkR_snoc hsh hn.form hs hn.near, ?_⟩, ?_⟩
  · intro x hx
    rcases List.mem_append.1 hx with hx | hx
    · exact hok x hx
    · simp at hx; subst hx; exact hso
  · intro x hx
    rcases List.mem_append.1 hx with hx | hx
    · exact h.each x hx
    · simp at hx; subst hx; exact hn.made
theorem madeL_one {n : NodeV} (hn : GoodNode n []) : MadeL [n] := by
  obtain ⟨s, hs, hso⟩ := hn.shape
  refine ⟨by simp, ⟨[s], checkR_snoc (l := []) rfl hn.form hs hn.near, ?_⟩, ?_⟩
  · intro x hx; simp at hx; subst hx; exact hso
  · intro x hx; simp at hx; subst hx; exact hn.made
theorem check_made {l : List NodeV} {base : Option Addr} {cap : Nat} {out : Int} {sh : List (List Int)} (h1 : 1 ≤ l.length) (h24 : l.length ≤ 24) (ho : 0 ≤ out ∧ out < l.length) (h : checkR l [] = (0, sh)) : check ⟨base, cap, l, out⟩ = (0, sh) := by
  unfold check
  rw [if_neg (by simp only; omega)]
  exact h
/-- the numbers of several nodes -/
def nodesD (l : List NodeV) : Asn where
  holds R w := ∀ n ∈ l, (nodeD n false).holds R w
  stable := fun hR hw h n hn => (nodeD n false).stable hR hw (h n hn)
theorem made_ok {n : NodeV} {R : Nat → Prop} {w : World} (hm : Made n) (h : (nodeD n false).holds R w) : n.ok w :=
  ⟨intsA_ok hm.shape (h.1 rfl), intsA_ok hm.data h.2.1, intsA_ok hm.bias h.2.2, hm.kindFits, hm.aFits, hm.bFits, hm.loFits, hm.hiFits, hm.sizeFits⟩
theorem graph_ok {l : List NodeV} {base : Option Addr} {cap : Nat} {out : Int} {R : Nat → Prop} {w : World} (hm : ∀ n ∈ l, Made n) (hl : l.length ≤ 1000) (hr : RowsI w base 9 (nodeRows l)) (h : (nodesD l).holds R w) (ho : i64 out) : (⟨base, cap, l, out⟩ : GraphV).ok w :=
  ⟨hr, fun n hn => made_ok (hm n hn) (h n hn), fun n hn => ⟨by have := (hm n hn).dataFew; omega, by have := (hm n hn).biasFew; omega⟩, by simp only; omega, ho⟩
def GraphPost (w : World) (b : Nat) (t : BytesV) (e : Ending) (w' : World) : Prop :=
  ∃ (l : List NodeV) (out : Int) (k : Nat) (l0 : SX.Loc) (F : Nat → Prop), MadeL l ∧ l.length ≤ 8 ∧ 0 ≤ out ∧ out < l.length ∧ k ≤ t.bs.length ∧ e = .returned (.agg #[.slice l0.base l.length l0.cap, .int .i64 out]) ∧ Step (fun y => y = b) w w' ∧
    w'.heap[b]? = some (.cells (tcells t k).toArray 30 (0, 0)) ∧ (∀ x, F x → w.heap.size ≤ x) ∧ (Ent.rows (nodeRows l) 9 38).holds (fun _ => l0) l0 F w' ∧ (nodesD l).holds (fun y => (w.heap.size ≤ y ∧ y < w'.heap.size) ∧ ¬ F y) w'
theorem ends_graph {w : World} {b : Nat} {t : BytesV} {H : Heap} {S : Asn} {nx j m k : Nat} {l : List NodeV} {out : Int} (h0 : (0, Ent.box (cs (tcells t k)) 30) ∈ H) (he : (j, Ent.rows (nodeRows l) 9 38) ∈ H) (hj : j ≠ 0) (hm : m = l.length) (hk : k ≤ t.bs.length) (hml : MadeL l) (h8 : l.length ≤ 8) (ho : 0 ≤ out ∧ out < l.length)
    (hS : ∀ R w', S.holds R w' → (restA w b).holds R w') (hD : ∀ R w', S.holds R w' → ((nodesD l).past w.heap.size).holds R w') : finK ⟨w, [(0, boxL b)]⟩ (.agg [.os j m, .c (.int .i64 out)]) H S nx (GraphPost w b t) := by
  subst hm
  refine fin_of fun ρ w' hw => ?_
  have hend := box_end hw hS h0
  obtain ⟨R, φ, hw⟩ := hw
  have hp := (hw.pin (0, boxL b) List.mem_cons_self).2
  obtain ⟨b', h1, h2, h3⟩ := hw.ent _ h0
  simp only at hp h1
  rw [hp] at h1
  obtain rfl : b = b' := by simpa [boxL] using h1
  refine ⟨l, out, k, ρ j, φ j, hml, h8, ho.1, ho.2, hk, rfl, hend.1, hend.2, fun x hx => ?_, hw.ent _ he, (nodesD l).mono (hD R w' hw.asn) (fun x hx => ⟨⟨hx.2, hw.ro x hx.1⟩, fun hF => hw.apart _ he x hF hx.1⟩)⟩
  rcases Nat.lt_or_ge x w.heap.size with hl | hl
  · exfalso
    by_cases hxb : x = b
    · exact sep_two hw.sep he h0 hj x hx ((h2 x).2 hxb)
    · exact hw.apart _ he x hx (hS R w' hw.asn x ⟨hl, hxb⟩).1
  · exact hl
theorem nodesD_one {n : NodeV} {N : Nat} {R : Nat → Prop} {w : World} (h : ((nodeD n false).past N).holds R w) : ((nodesD [n]).past N).holds R w := fun m hm => by simp at hm; subst hm; exact h
theorem nodesD_snoc {l : List NodeV} {n : NodeV} {N : Nat} {R : Nat → Prop} {w : World} (hl : ((nodesD l).past N).holds R w) (h : ((nodeD n false).past N).holds R w) : ((nodesD (l ++ [n])).past N).holds R w := fun m hm => by
  rcases List.mem_append.1 hm with hm | hm
  · exact hl m hm
  · simp at hm; subst hm; exact h
theorem node_snoc (l : List NodeV) (n : NodeV) {i : Nat} {T : TypeId} {H : Heap} : (i, Ent.rows (nodeRows (l ++ [n])) 9 T) ∈ (i, Ent.rows (List.take l.length (nodeRows l) ++ [n.cells]) 9 T) :: H := by
  rw [show nodeRows (l ++ [n]) = List.take l.length (nodeRows l) ++ [n.cells] by rw [List.take_of_length_le (by rw [nodeRows_length]; exact Nat.le_refl _)]; simp [nodeRows]]
  exact List.mem_cons_self
theorem unalias {sv : ShapesV} {x : NodeV × Bool} {N : Nat} {R : Nat → Prop} {w : World} (ha : x.2 = true → x.1.shape ∈ sv.l) (hs : ((shapesD sv).past N).holds R w) (hn : ((nodeD x.1 x.2).past N).holds R w) : ((nodeD x.1 false).past N).holds R w :=
  ⟨fun _ => by
    cases h2 : x.2 with
    | true => exact hs.2 _ (ha h2)
    | false => exact hn.1 h2, hn.2⟩
set_option maxRecDepth 20000 in
set_option maxHeartbeats 8000000 in
theorem make_any (w : World) (b : Nat) (t : BytesV) (k : Nat) (h : TapeOk w b t k) : Calls Try.prog 16 #[.pointer (some ⟨b, 0, none⟩)] w (GraphPost w b t) := by
  obtain ⟨hs, hby, hd, hk, hb⟩ := h
  refine calls_of tab tabOk Try.func16 rfl rfl rfl [(0, boxL b)] (fun _ => boxL b) [.lp 0 0 0 0] _ (restA w b) 1 (by simp [SV.rfs, SV.rf, boxL, add_none]) rfl (by show 1 ≤ _; decide) (abs_box hb) ?_
  (repeat' ((conv => whnf) <;> first | (show Wp _ _ _ _ _ _ _; refine Wp.go tabOk rfl ?_) | (show @cmpK _ _ _; (first | refine cmpY ?_ | refine cmpN ?_ | (refine cmp_both ?_ ?_ <;> intro _))) | (show wrapK _ _ _; refine wrapA ?_) | (show leK _ _ _; refine leA ?_) | (show roomK _ _ _; refine roomA ?_) | (show ltK _ _ _; refine ltA ?_) | (show _ ∧ _; refine ⟨?_, ?_⟩) | (show keepK _ _ _ _ _; refine keepA ?_) | refine own_keep ?_ | refine ap_old ?_))
  refine call_t (f := 40) [] t k NodeV.valA (fun n => nodeD n false) _ (by first | exact List.mem_cons_self | exact List.mem_cons_of_mem _ List.mem_cons_self | (repeat (first | exact List.mem_cons_self | apply List.mem_cons_of_mem))) Try.call40 hs hby hk (fun R w' h => rest_holds hd (by first | exact h | exact h.1 | exact h.1.1 | exact h.1.1.1 | exact h.1.1.1.1)) (fun R w' b' ht _ _ => input_any w' b' t k ht) (fun n0 k1 hn0 hk1 => ?_)
  (repeat' ((conv => whnf) <;> first | (show Wp _ _ _ _ _ _ _; refine Wp.go tabOk rfl ?_) | (show @cmpK _ _ _; (first | refine cmpY ?_ | refine cmpN ?_ | (refine cmp_both ?_ ?_ <;> intro _))) | (show wrapK _ _ _; refine wrapA ?_) | (show leK _ _ _; refine leA ?_) | (show roomK _ _ _; refine roomA ?_) | (show ltK _ _ _; refine ltA ?_) | (show _ ∧ _; refine ⟨?_, ?_⟩) | (show keepK _ _ _ _ _; refine keepA ?_) | refine own_keep ?_ | refine ap_old ?_))
  refine call_num (f := 41) [.int .i64 8] t k1 _ (by first | exact List.mem_cons_self | exact List.mem_cons_of_mem _ List.mem_cons_self | (repeat (first | exact List.mem_cons_self | apply List.mem_cons_of_mem))) Try.call41 hs hby hk1 (fun R w' h => rest_holds hd (by first | exact h | exact h.1 | exact h.1.1 | exact h.1.1.1 | exact h.1.1.1.1)) (fun w' b' ht => next_any w' b' t k1 ht 8 ⟨by decide, by decide⟩) (fun q k2 hq hk2 => ?_)
  have hq0 := hq.1
  have hq1 := hq.2.1 (by omega)
  (repeat' ((conv => whnf) <;> first | (show Wp _ _ _ _ _ _ _; refine Wp.go tabOk rfl ?_) | (show @cmpK _ _ _; (first | refine cmpY ?_ | refine cmpN ?_ | (refine cmp_both ?_ ?_ <;> intro _))) | (show wrapK _ _ _; refine wrapA ?_) | (show leK _ _ _; refine leA ?_) | (show roomK _ _ _; refine roomA ?_) | (show ltK _ _ _; refine ltA ?_) | (show _ ∧ _; refine ⟨?_, ?_⟩) | (show keepK _ _ _ _ _; refine keepA ?_) | refine own_keep ?_ | refine ap_old ?_))
  refine Wp.loop (σ := Int × Nat × Nat × Int × List NodeV) 5 (fun ⟨i, _, _, _, _⟩ => [(0, .lp 0 0 0 0), (3, .lp 3 0 0 0), (4, .c (.int .i64 i)), (2, .lp 1 0 0 0)])
    (fun ⟨_, kt, m, out, l⟩ => [(4, .rows (nodeRows l) 9 38), (3, .box [.os 4 m, .c (.int .i64 out)] 26), (1, .box (cs [.slice none 0 0, .int .i64 0]) 26), (0, .box (cs (tcells t kt)) 30)])
    (fun ⟨_, _, _, _, l⟩ => (restA w b).and ((nodesD l).past w.heap.size))
    (fun ⟨i, kt, m, out, l⟩ => kt ≤ t.bs.length ∧ l.length = m ∧ 0 ≤ i ∧ m + i ≤ 8 ∧ MadeL l ∧ 0 ≤ out ∧ out < m) (fun s => s.1.toNat) (q, k2, 1, 0, [n0]) [(4, some 2)] (by decide) (fun s => ⟨rfl, rfl⟩) ⟨hk2, rfl, hq0, by omega, madeL_one (good_input hn0), by decide, by decide⟩ ⟨rfl, ⟨rfl, rfl, rfl, rfl, trivial⟩, ⟨(by first | exact List.mem_cons_self | exact List.mem_cons_of_mem _ List.mem_cons_self | (repeat (first | exact List.mem_cons_self | apply List.mem_cons_of_mem))), (by first | exact List.mem_cons_self | exact List.mem_cons_of_mem _ List.mem_cons_self | (repeat (first | exact List.mem_cons_self | apply List.mem_cons_of_mem))), (by first | exact List.mem_cons_self | exact List.mem_cons_of_mem _ List.mem_cons_self | (repeat (first | exact List.mem_cons_self | apply List.mem_cons_of_mem))), (by first | exact List.mem_cons_self | exact List.mem_cons_of_mem _ List.mem_cons_self | (repeat (first | exact List.mem_cons_self | apply List.mem_cons_of_mem))), trivial⟩, fun R w' h => ⟨h.1, nodesD_one h.2⟩⟩ ?_
  rintro ⟨i, kt, m, out, l⟩ ⟨hkt, hlm, hi0, hmi, hml, ho0, ho1⟩
  subst hlm
  obtain ⟨sh, hsh, hso⟩ := hml.shapes
  have hshl : sh.length = l.length := by have := checkR_length l [] (by rw [hsh]); rw [hsh] at this; simpa using this
  have hl1 := hml.one
  by_cases hi : 0 < i
  · (repeat' ((conv => whnf) <;> first | (show Wp _ _ _ _ _ _ _; refine Wp.go tabOk rfl ?_) | (show @cmpK _ _ _; (first | refine cmpY ?_ | refine cmpN ?_ | (refine cmp_both ?_ ?_ <;> intro _))) | (show wrapK _ _ _; refine wrapA ?_) | (show leK _ _ _; refine leA ?_) | (show roomK _ _ _; refine roomA ?_) | (show ltK _ _ _; refine ltA ?_) | (show _ ∧ _; refine ⟨?_, ?_⟩) | (show keepK _ _ _ _ _; refine keepA ?_) | refine own_keep ?_ | refine ap_old ?_))
    refine call_check (f := 38) (0, sh) Try.call38 (fun ρ w' hw => by
      have hg : (⟨(ρ 4).base, (ρ 4).cap, l, out⟩ : GraphV).ok w' := holds_of_abs hw fun R h => graph_ok hml.each (by omega) (rows_of_abs hw (by first | exact List.mem_cons_self | exact List.mem_cons_of_mem _ List.mem_cons_self | (repeat (first | exact List.mem_cons_self | apply List.mem_cons_of_mem)))) ((nodesD l).mono h.2 (fun b hb => hb.1)) ⟨by omega, by omega⟩
      have := refCheck_any w' _ hg
      rw [check_made hml.one (by omega) ⟨ho0, ho1⟩ hsh] at this
      exact this) (fun h => absurd rfl h) (fun _ sv hm hs2 => ?_)
    have hm : sv.l.map (·.xs) = sh := hm
    (repeat' ((conv => whnf) <;> first | (show Wp _ _ _ _ _ _ _; refine Wp.go tabOk rfl ?_) | (show @cmpK _ _ _; (first | refine cmpY ?_ | refine cmpN ?_ | (refine cmp_both ?_ ?_ <;> intro _))) | (show wrapK _ _ _; refine wrapA ?_) | (show leK _ _ _; refine leA ?_) | (show roomK _ _ _; refine roomA ?_) | (show ltK _ _ _; refine ltA ?_) | (show _ ∧ _; refine ⟨?_, ?_⟩) | (show keepK _ _ _ _ _; refine keepA ?_) | refine own_keep ?_ | refine ap_old ?_))
    refine call_t (f := 40) [] t kt NodeV.valA (fun n => nodeD n false) _ (by first | exact List.mem_cons_self | exact List.mem_cons_of_mem _ List.mem_cons_self | (repeat (first | exact List.mem_cons_self | apply List.mem_cons_of_mem))) Try.call40 hs hby hkt (fun R w' h => rest_holds hd (by first | exact h | exact h.1 | exact h.1.1 | exact h.1.1.1 | exact h.1.1.1.1)) (fun R w' b' ht _ _ => input_any w' b' t kt ht) (fun n1 k3 hn1 hk3 => ?_)
    (repeat' ((conv => whnf) <;> first | (show Wp _ _ _ _ _ _ _; refine Wp.go tabOk rfl ?_) | (show @cmpK _ _ _; (first | refine cmpY ?_ | refine cmpN ?_ | (refine cmp_both ?_ ?_ <;> intro _))) | (show wrapK _ _ _; refine wrapA ?_) | (show leK _ _ _; refine leA ?_) | (show roomK _ _ _; refine roomA ?_) | (show ltK _ _ _; refine ltA ?_) | (show _ ∧ _; refine ⟨?_, ?_⟩) | (show keepK _ _ _ _ _; refine keepA ?_) | refine own_keep ?_ | refine ap_old ?_))
    refine call_num (f := 41) [.int .i64 6] t k3 _ (by first | exact List.mem_cons_self | exact List.mem_cons_of_mem _ List.mem_cons_self | (repeat (first | exact List.mem_cons_self | apply List.mem_cons_of_mem))) Try.call41 hs hby hk3 (fun R w' h => rest_holds hd (by first | exact h | exact h.1 | exact h.1.1 | exact h.1.1.1 | exact h.1.1.1.1)) (fun w' b' ht => next_any w' b' t k3 ht 6 ⟨by decide, by decide⟩) (fun z k4 hz hk4 => ?_)
    (repeat' ((conv => whnf) <;> first | (show leK _ _ _; (refine le_of (by rw [nodeRows_length]; exact Nat.le_refl _) ?_)) | (show roomK _ _ _; (refine room_of (by show (l.length + 1) * 120 ≤ 140737488355328; omega) ?_)) | (show wrapK _ _ _; (first | refine wrap_i64 (by omega) (by omega) ?_ | (show wrapK .i64 (((l.length + 1 : Nat) : Int) - 1) _; refine wrap_i64 (by omega) (by omega) ?_))) | (show Wp _ _ _ _ _ _ _; refine Wp.go tabOk rfl ?_) | (show @cmpK _ _ _; (first | refine cmpY ?_ | refine cmpN ?_ | (refine cmp_both ?_ ?_ <;> intro _))) | (show wrapK _ _ _; refine wrapA ?_) | (show leK _ _ _; refine leA ?_) | (show roomK _ _ _; refine roomA ?_) | (show ltK _ _ _; refine ltA ?_) | (show _ ∧ _; refine ⟨?_, ?_⟩) | (show keepK _ _ _ _ _; refine keepA ?_) | refine own_keep ?_ | refine ap_old ?_))
    · have hsl : sv.l.length = sh.length := by rw [← hm]; simp
      refine call_t (f := 42) [sv.val] t k4 (fun x : NodeV × Bool => x.1.valA) (fun x => nodeD x.1 x.2) _ (by first | exact List.mem_cons_self | exact List.mem_cons_of_mem _ List.mem_cons_self | (repeat (first | exact List.mem_cons_self | apply List.mem_cons_of_mem))) Try.call42 hs hby hk4 (fun R w' h => rest_holds hd (by first | exact h | exact h.1 | exact h.1.1 | exact h.1.1.1 | exact h.1.1.1.1)) (fun R w' b' ht hR hRo => node_any w' b' t k4 ht sv ((shapesD sv).mono hR.1.2 (fun x hx => hRo x hx.1)) ⟨by omega, by omega⟩ hs2 (fun u hu => hso _ (by rw [← hm]; exact List.mem_map.2 ⟨u, hu, rfl⟩))) (fun x k5 hx hk5 => ?_)
      have hxg := hx.good
      rw [hm] at hxg
      (repeat' ((conv => whnf) <;> first | (show leK _ _ _; (refine le_of (by rw [nodeRows_length]; exact Nat.le_refl _) ?_)) | (show roomK _ _ _; (refine room_of (by show (l.length + 1) * 120 ≤ 140737488355328; omega) ?_)) | (show wrapK _ _ _; (first | refine wrap_i64 (by omega) (by omega) ?_ | (show wrapK .i64 (((l.length + 1 : Nat) : Int) - 1) _; refine wrap_i64 (by omega) (by omega) ?_))) | (show Wp _ _ _ _ _ _ _; refine Wp.go tabOk rfl ?_) | (show @cmpK _ _ _; (first | refine cmpY ?_ | refine cmpN ?_ | (refine cmp_both ?_ ?_ <;> intro _))) | (show wrapK _ _ _; refine wrapA ?_) | (show leK _ _ _; refine leA ?_) | (show roomK _ _ _; refine roomA ?_) | (show ltK _ _ _; refine ltA ?_) | (show _ ∧ _; refine ⟨?_, ?_⟩) | (show keepK _ _ _ _ _; refine keepA ?_) | refine own_keep ?_ | refine ap_old ?_))
      exact ⟨(i - 1, k5, l.length + 1, ((l.length + 1 : Nat) : Int) - 1, l ++ [x.1]), [(4, some 7)], ⟨by assumption, by simp, by omega, by omega, madeL_snoc hml hsh (hxg) hso, by omega, by omega⟩, by simp only; omega, rfl, ⟨rfl, rfl, rfl, rfl, trivial⟩, ⟨node_snoc l _, (by first | exact List.mem_cons_self | exact List.mem_cons_of_mem _ List.mem_cons_self | (repeat (first | exact List.mem_cons_self | apply List.mem_cons_of_mem))), (by first | exact List.mem_cons_self | exact List.mem_cons_of_mem _ List.mem_cons_self | (repeat (first | exact List.mem_cons_self | apply List.mem_cons_of_mem))), (by first | exact List.mem_cons_self | exact List.mem_cons_of_mem _ List.mem_cons_self | (repeat (first | exact List.mem_cons_self | apply List.mem_cons_of_mem))), trivial⟩, fun R w' h => ⟨h.1.1.1.1, nodesD_snoc h.1.1.1.2 (unalias hx.alias_ h.1.1.2 h.2)⟩⟩
    · exact ⟨(i - 1, k4, l.length + 1, ((l.length + 1 : Nat) : Int) - 1, l ++ [n1]), [(4, some 7)], ⟨by assumption, by simp, by omega, by omega, madeL_snoc hml hsh (good_input hn1) hso, by omega, by omega⟩, by simp only; omega, rfl, ⟨rfl, rfl, rfl, rfl, trivial⟩, ⟨node_snoc l _, (by first | exact List.mem_cons_self | exact List.mem_cons_of_mem _ List.mem_cons_self | (repeat (first | exact List.mem_cons_self | apply List.mem_cons_of_mem))), (by first | exact List.mem_cons_self | exact List.mem_cons_of_mem _ List.mem_cons_self | (repeat (first | exact List.mem_cons_self | apply List.mem_cons_of_mem))), (by first | exact List.mem_cons_self | exact List.mem_cons_of_mem _ List.mem_cons_self | (repeat (first | exact List.mem_cons_self | apply List.mem_cons_of_mem))), trivial⟩, fun R w' h => ⟨h.1.1.1, nodesD_snoc h.1.1.2 h.2⟩⟩
  · (repeat' ((conv => whnf) <;> first | (show Wp _ _ _ _ _ _ _; refine Wp.go tabOk rfl ?_) | (show @cmpK _ _ _; (first | refine cmpY ?_ | refine cmpN ?_ | (refine cmp_both ?_ ?_ <;> intro _))) | (show wrapK _ _ _; refine wrapA ?_) | (show leK _ _ _; refine leA ?_) | (show roomK _ _ _; refine roomA ?_) | (show ltK _ _ _; refine ltA ?_) | (show _ ∧ _; refine ⟨?_, ?_⟩) | (show keepK _ _ _ _ _; refine keepA ?_) | refine own_keep ?_ | refine ap_old ?_))
    refine call_num (f := 41) [.int .i64 6] t kt _ (by first | exact List.mem_cons_self | exact List.mem_cons_of_mem _ List.mem_cons_self | (repeat (first | exact List.mem_cons_self | apply List.mem_cons_of_mem))) Try.call41 hs hby hkt (fun R w' h => rest_holds hd h.1) (fun w' b' ht => next_any w' b' t kt ht 6 ⟨by decide, by decide⟩) (fun z k4 hz hk4 => ?_)
    (repeat' ((conv => whnf) <;> first | (show Wp _ _ _ _ _ _ _; refine Wp.go tabOk rfl ?_) | (show @cmpK _ _ _; (first | refine cmpY ?_ | refine cmpN ?_ | (refine cmp_both ?_ ?_ <;> intro _))) | (show wrapK _ _ _; refine wrapA ?_) | (show leK _ _ _; refine leA ?_) | (show roomK _ _ _; refine roomA ?_) | (show ltK _ _ _; refine ltA ?_) | (show _ ∧ _; refine ⟨?_, ?_⟩) | (show keepK _ _ _ _ _; refine keepA ?_) | refine own_keep ?_ | refine ap_old ?_))
    · refine call_num (f := 41) [.int .i64 l.length] t k4 _ (by first | exact List.mem_cons_self | exact List.mem_cons_of_mem _ List.mem_cons_self | (repeat (first | exact List.mem_cons_self | apply List.mem_cons_of_mem))) Try.call41 hs hby hk4 (fun R w' h => rest_holds hd h.1) (fun w' b' ht => next_any w' b' t k4 ht l.length ⟨by omega, by omega⟩) (fun o k5 ho hk5 => ?_)
      (repeat' ((conv => whnf) <;> first | (show Wp _ _ _ _ _ _ _; refine Wp.go tabOk rfl ?_) | (show @cmpK _ _ _; (first | refine cmpY ?_ | refine cmpN ?_ | (refine cmp_both ?_ ?_ <;> intro _))) | (show wrapK _ _ _; refine wrapA ?_) | (show leK _ _ _; refine leA ?_) | (show roomK _ _ _; refine roomA ?_) | (show ltK _ _ _; refine ltA ?_) | (show _ ∧ _; refine ⟨?_, ?_⟩) | (show keepK _ _ _ _ _; refine keepA ?_) | refine own_keep ?_ | refine ap_old ?_))
      conv => whnf
      exact ends_graph (by first | exact List.mem_cons_self | exact List.mem_cons_of_mem _ List.mem_cons_self | (repeat (first | exact List.mem_cons_self | apply List.mem_cons_of_mem))) (by first | exact List.mem_cons_self | exact List.mem_cons_of_mem _ List.mem_cons_self | (repeat (first | exact List.mem_cons_self | apply List.mem_cons_of_mem))) (by decide) rfl hk5 hml (by omega) (by have := ho.1; have := ho.2.1; have := ho.2.2; omega) (fun _ _ h => h.1) (fun _ _ h => h.2)
    · conv => whnf
      exact ends_graph (by first | exact List.mem_cons_self | exact List.mem_cons_of_mem _ List.mem_cons_self | (repeat (first | exact List.mem_cons_self | apply List.mem_cons_of_mem))) (by first | exact List.mem_cons_self | exact List.mem_cons_of_mem _ List.mem_cons_self | (repeat (first | exact List.mem_cons_self | apply List.mem_cons_of_mem))) (by decide) rfl hk4 hml (by omega) ⟨ho0, ho1⟩ (fun _ _ h => h.1) (fun _ _ h => h.2)
end Go.Proofs.Ytdmkdogakbipbaa

/- GT -/
namespace Go.Proofs.Ytdmkdogakbipbaa
open Go.SX Go.ChangeShapes Go.WideShapes Go.ChangeAt Go.RowKit
end Go.Proofs.Ytdmkdogakbipbaa

/- HA -/
namespace Go.Proofs.Ytdmkdogakbipbaa
open Go.SX Go.RowKit Go.ChangeShapes Go.WideShapes Go.ChangeAt
theorem call_graph {cx : Cx} {f : FuncId} {H : Heap} {S : Asn} {nx i : Nat} {K : SV → Heap → Asn → Nat → Prop} (t : BytesV) (k : Nat) (hi : (i, Ent.box (cs (tcells t k)) 30) ∈ H) (hf : ∀ ar w, (callFunc f ar).run cx.P w = .ok (.enter f ar) w)
    (hsm : t.bs.length ≤ 1000000) (hby : ∀ x ∈ t.bs, x ≤ 255) (hk : k ≤ t.bs.length) (hS : ∀ R w', S.holds R w' → (bytesD t).holds R w')
    (hc : ∀ w' b, TapeOk w' b t k → Calls cx.P f #[.pointer (some ⟨b, 0, none⟩)] w' (GraphPost w' b t))
    (h : ∀ (l : List NodeV) (out : Int) (k' : Nat), MadeL l → l.length ≤ 8 → 0 ≤ out → out < l.length → K (.agg [.os nx l.length, .c (.int .i64 out)]) ((nx, .rows (nodeRows l) 9 38) :: setH i (.box (cs (tcells t k')) 30) H) (S.and ((nodesD l).past cx.B.w0.heap.size)) (nx + 1)) : callK cx f [.lp i 0 0 0] H S nx K := by
  rw [callK_def]
  refine ⟨hf, fun ρ w hw => ?_⟩
  obtain ⟨R, φ, hwR⟩ := hw
  obtain ⟨b, h1, h2, h3⟩ := hwR.ent _ hi
  simp only at h1 h2
  rw [rfs_cs] at h3
  have hRo : ∀ x, R x → oth w b x := fun x hx => ⟨hwR.ro x hx, fun e => hwR.apart _ hi x ((h2 x).2 e) hx⟩
  have e : SV.rfs ρ [.lp i 0 0 0] = [Value.pointer (some ⟨b, 0, none⟩)] := by
    simp only [SV.rfs, SV.rf, h1, Option.map_some, add_none]
  rw [e]
  refine (hc w b ⟨hsm, hby, (bytesD t).mono (hS R w hwR.asn) hRo, hk, h3⟩).mono ?_
  rintro e w' ⟨l, out, k', l0, F, hml, h8, ho0, ho1, hk', rfl, hs, hb, hF, hent, hD⟩
  have hlt : (Ent.box (cs (tcells t k')) 30).lt nx := fun y hy => lts_cs nx _ y hy
  have h' := hwR.store hi hlt (w' := w') fun G hG => by
    obtain ⟨b', g1, g2, g3⟩ := hG
    obtain rfl : b = b' := by rw [h1] at g1; simpa using g1
    exact ⟨⟨hs.os, hs.tape, hs.output, hs.size, fun y hy hne => hs.block y hy fun e => hne ((g2 y).2 e)⟩, b, g1, g2, by rw [rfs_cs]; exact hb⟩
  have hold : ∀ p ∈ setH i (.box (cs (tcells t k')) 30) H, ∀ x, φ p.1 x → x < w.heap.size := fun q hq x hx => by
    have hk : q.1 ∈ H.map (·.1) := by rw [← keys_setH i (.box (cs (tcells t k')) 30) H]; exact List.mem_map.2 ⟨q, hq, rfl⟩
    obtain ⟨q', hq', e⟩ := List.mem_map.1 hk
    rw [← e] at hx
    exact Ent.size (hwR.ent q' hq') hx
  have ha := h'.add (F := F) (e := .rows (nodeRows l) 9 38) (l := l0) (fun y hy => by simp [Ent.hass] at hy) hent (fun x hx hR => by have := hF x hx; have := hwR.ro x hR; omega) (fun p hp x hx hx' => by have := hF x hx'; have := hold p hp x hx; omega)
  refine ⟨.agg [.os nx l.length, .c (.int .i64 out)], upd ρ nx l0, _, _, nx + 1, by simp [SV.rf, SV.rfs, upd_same], fun j hj => upd_lt hj, Nat.le_succ _, ?_, ?_, h l out k' hml h8 ho0 ho1⟩
  · rw [SV.lt_agg, SV.lts_iff]
    intro v hv
    simp only [List.mem_cons, List.not_mem_nil, or_false] at hv
    rcases hv with rfl | rfl
    · exact SV.lt_os (by omega)
    · exact SV.lt_c _
  · refine ⟨fun y => R y ∨ ((w.heap.size ≤ y ∧ y < w'.heap.size) ∧ ¬ F y), (fun i => if i = nx then F else φ i), ha.os, ha.tape, ha.output, ha.size, ha.pin, fun y hy => hy.elim (ha.ro y) (fun h => h.1.2), ⟨S.stable (fun _ h => .inl h) (fun _ _ => rfl) ha.asn, ?_⟩, ha.key, ha.ent, fun q hq y hy hy' => ?_, ha.sep⟩
    · exact (nodesD l).stable (fun y hy => ⟨.inr hy, Nat.le_trans hwR.size hy.1.1⟩) (fun _ _ => rfl) hD
    · rcases hy' with hy' | hy'
      · exact ha.apart q hq y hy hy'
      · rcases List.mem_cons.1 hq with rfl | hq
        · simp only [if_true] at hy; exact hy'.2 hy
        · have hne : q.1 ≠ nx := by have := (h'.key q hq).1; omega
          simp only [if_neg hne] at hy
          have := hold q hq y hy
          omega
end Go.Proofs.Ytdmkdogakbipbaa

/- JA -/
namespace Go.Proofs.Ytdmkdogakbipbaa
open Go.SX Go.RowKit Go.ChangeShapes Go.WideShapes Go.ChangeAt
def goodIn : List NodeV → List (List Int) → Prop
  | [], inp => inp = []
  | n :: r, inp => if n.kind ≠ 1 then goodIn r inp else ∃ x xs, inp = x :: xs ∧ ((x.length : Int) = entries n.shape.xs ∧ ∀ v ∈ x, n.lo ≤ v ∧ v ≤ n.hi) ∧ goodIn r xs
end Go.Proofs.Ytdmkdogakbipbaa

/- JB -/
namespace Go.Proofs.Ytdmkdogakbipbaa
open Go.SX Go.RowKit
theorem foldl_min_geJ {m : Int} : ∀ (l : List Int) (x : Int), m ≤ x → (∀ y ∈ l, m ≤ y) → m ≤ l.foldl min x
  | [], x, h, _ => h
  | z :: r, x, h, hl => by
    rw [List.foldl_cons]
    have := hl z List.mem_cons_self
    exact foldl_min_geJ r _ (by omega) fun y hy => hl y (List.mem_cons_of_mem _ hy)
theorem foldl_max_leJ {m : Int} : ∀ (l : List Int) (x : Int), x ≤ m → (∀ y ∈ l, y ≤ m) → l.foldl max x ≤ m
  | [], x, h, _ => h
  | z :: r, x, h, hl => by
    rw [List.foldl_cons]
    have := hl z List.mem_cons_self
    exact foldl_max_leJ r _ (by omega) fun y hy => hl y (List.mem_cons_of_mem _ hy)
theorem foldI_ge {l : List Int} {m : Int} (hn : l ≠ []) (h : ∀ y ∈ l, m ≤ y) : m ≤ foldI min l := by
  cases l with
  | nil => exact absurd rfl hn
  | cons x r => exact foldl_min_geJ r x (h x List.mem_cons_self) fun y hy => h y (List.mem_cons_of_mem _ hy)
theorem foldI_le2 {l : List Int} {m : Int} (hn : l ≠ []) (h : ∀ y ∈ l, y ≤ m) : foldI max l ≤ m := by
  cases l with
  | nil => exact absurd rfl hn
  | cons x r => exact foldl_max_leJ r x (h x List.mem_cons_self) fun y hy => h y (List.mem_cons_of_mem _ hy)
def mkI (l : List Int) : IntsV := ⟨none, l.length, l⟩
theorem mkI_sane {l : List Int} (h : ∀ x ∈ l, bd20 x) (hl : l.length ≤ 64) : (mkI l).sane := ⟨fun x hx => by have := h x hx; unfold bd20 at this; show _ ∧ _; omega, Nat.le_refl _, by show l.length ≤ _; omega⟩
theorem vals_run {g : GraphV} (hsp : (spansH g).1 = 0) : ∀ {r : List NodeV} {k : Nat} {kn : List IntsV} {inp : List (List Int)}, k ≤ g.l.length → g.l.drop k = r → KnownH g kn k → goodIn r inp → ∃ kn' : List IntsV, valsQ (check g).2 r (kn.map IntsV.xs) inp = (0, kn'.map IntsV.xs) ∧ KnownH g kn' g.l.length
  | [], k, kn, inp, hk, hr, hkn, hg => by
    simp only [goodIn] at hg
    subst hg
    have : g.l.length ≤ k := List.drop_eq_nil_iff.1 hr
    obtain rfl : k = g.l.length := by omega
    exact ⟨kn, by simp [valsQ], hkn⟩
  | n :: r, k, kn, inp, hk, hr, hkn, hg => by
    obtain ⟨hck, hsl, hsi⟩ := spansH_in hsp
    obtain ⟨hl1, hl24, hout, hcl, hin⟩ := check_in hck
    have hlt : k < g.l.length := by
      rcases Nat.lt_or_ge k g.l.length with h | h
      · exact h
      · rw [List.drop_eq_nil_of_le h] at hr; cases hr
    have hdrop : g.l.drop k = g.l[k] :: g.l.drop (k + 1) := List.drop_eq_getElem_cons hlt
    rw [hdrop] at hr
    have hgk : g.l[k]? = some n := by rw [List.getElem?_eq_getElem hlt]; simp only [List.cons.injEq] at hr; rw [hr.1]
    have hr2 : g.l.drop (k + 1) = r := by simp only [List.cons.injEq] at hr; exact hr.2
    obtain ⟨s, hs, hni⟩ := hin k n hgk
    obtain ⟨p, hp, hpe, hp1, hp2⟩ := hsi k n hgk
    obtain ⟨⟨ha0, hal2, hai⟩, ⟨hb0, hbl2, hbi⟩, cnt, hcnt0, hpl⟩ := place_in hck hgk
    have e1 : (check g).2.getD k [] = s := by rw [List.getD_eq_getElem?_getD, hs]; rfl
    rw [e1] at hcnt0 hpl
    have hcb := (entries_bd s).2
    have hkl := hkn.len
    have hkml : (kn.map IntsV.xs).length = k := by rw [List.length_map, hkl]
    have hti : ((check g).2.take k).length = k := by rw [List.length_take, hcl]; omega
    have hform := hni.form
    rw [hti] at hform
    simp only [goodIn] at hg
    by_cases hk1 : n.kind = 1
    · rw [if_neg (fun h => h hk1)] at hg
      obtain ⟨x, xs, rfl, ⟨hx1, hx2⟩, hg⟩ := hg
      have hsx : s = n.shape.xs := by
        have := hni.shape
        unfold shapeO at this
        rw [if_pos (.inl hk1)] at this
        simpa using this.symm
      have hL : endsAt (check g).2 n ((spansH g).2.take k) = [n.lo, n.hi] := by
        unfold endsAt endsA
        rw [if_neg (by unfold isLin; omega)]
        exact if_pos hk1
      have hwi : within p x := by
        rw [hpe]
        unfold spanAt spanE
        rw [hL]
        intro z hz
        have m1 : foldI min [n.lo, n.hi] = min n.lo n.hi := rfl
        have m2 : foldI max [n.lo, n.hi] = max n.lo n.hi := rfl
        have := hx2 z hz
        simp only [m1, m2]
        omega
      have hxl : x.length ≤ 64 := by rw [← hsx] at hx1; omega
      have hne : x ≠ [] := by
        intro e
        have := hpl.few
        rw [e] at hx1
        rw [← hsx] at hx1
        simp only [List.length_nil] at hx1
        omega
      have hbad : ¬ ((x.length : Int) ≠ entries s ∨ foldI min x < n.lo ∨ n.hi < foldI max x) := by
        rw [hsx]
        have h1 : n.lo ≤ foldI min x := foldI_ge hne fun y hy => (hx2 y hy).1
        have h2 : foldI max x ≤ n.hi := foldI_le2 hne fun y hy => (hx2 y hy).2
        omega
      have hv : valsQ (check g).2 (n :: r) (kn.map IntsV.xs) (x :: xs) = valsQ (check g).2 r (kn.map IntsV.xs ++ [x]) xs := by
        conv => lhs; unfold valsQ
        rw [if_neg (fun h => h hk1)]
        simp only
        rw [hkml, e1, if_neg hbad]
      rw [hv]
      have hkn2 := known_snocH hkn (x := mkI x) (mkI_sane (fun y hy => by have := hwi y hy; unfold bd20; omega) hxl) hp hs hwi (by show (x.length : Int) = _; rw [hsx]; exact hx1)
      have := vals_run hsp (by omega) hr2 hkn2 hg
      rw [List.map_append] at this
      exact this
    · rw [if_pos hk1] at hg
      have kA := known_argH hsp hkn (by omega) n.a.toNat
      have kB := known_argH hsp hkn (by omega) n.b.toNat
      have hnum := num_inH hsp hkn (by omega) (formed_of hform)
      have hpl' : PlaceIn n ((check g).2.take k) s (mkI ((check g).2.getD n.a.toNat [])).xs cnt := hpl
      have hwn := nums_in hpl' hk1 hnum kA.1 kB.1
      have hEq : endsAt (check g).2 n ((spansH g).2.take k) = endsA n cnt (mkI ((check g).2.getD n.a.toNat [])).xs (((spansH g).2.take k).getD n.a.toNat (0, 0)) (((spansH g).2.take k).getD n.b.toNat (0, 0)) := by
        unfold endsAt
        rw [show ((spansH g).2.take k).length = k by rw [List.length_take, hsl]; omega, e1, hcnt0]; rfl
      have hv : valsQ (check g).2 (n :: r) (kn.map IntsV.xs) inp = valsQ (check g).2 r (kn.map IntsV.xs ++ [numsA n cnt (mkI ((check g).2.getD n.a.toNat [])).xs (kn.getD n.a.toNat nilI).xs (kn.getD n.b.toNat nilI).xs]) inp := by
        conv => lhs; unfold valsQ
        unfold numsAt
        rw [if_pos hk1, getD_xs, getD_xs, hkml, e1, hcnt0]; rfl
      rw [hv]
      have hwi : within p (numsA n cnt (mkI ((check g).2.getD n.a.toNat [])).xs (kn.getD n.a.toNat nilI).xs (kn.getD n.b.toNat nilI).xs) := by
        rw [hpe]; unfold spanAt; rw [hEq]; exact hwn.1
      have hkn2 := known_snocH hkn (x := mkI (numsA n cnt (mkI ((check g).2.getD n.a.toNat [])).xs (kn.getD n.a.toNat nilI).xs (kn.getD n.b.toNat nilI).xs)) (mkI_sane (fun y hy => by have := hwi y hy; unfold bd20; omega) (by rw [hwn.2]; exact hpl.few.2)) hp hs hwi (by show ((numsA _ _ _ _ _).length : Int) = _; rw [hwn.2, hcnt0])
      have := vals_run hsp (by omega) hr2 hkn2 hg
      rw [List.map_append] at this
      exact this
theorem spansQ_or {sh : List (List Int)} : ∀ {l : List NodeV} {acc : List Sp}, (spansQ sh l acc).1 = 0 ∨ spansQ sh l acc = (5, [])
  | [], acc => .inl rfl
  | n :: r, acc => by
    unfold spansQ
    split
    · exact .inr rfl
    · exact spansQ_or
end Go.Proofs.Ytdmkdogakbipbaa

/- HB -/
namespace Go.Proofs.Ytdmkdogakbipbaa
open Go.SX Go.RowKit Go.ChangeShapes Go.WideShapes Go.ChangeAt
structure BytesV.raw (w : World) (t : BytesV) : Prop where
  rows : RowsI w t.base 1 (bytesR t.bs)
  fits : ∀ x ∈ t.bs, x ≤ 255
theorem addr_plain {w : World} {a : Addr} {v : Value} (h : w.cell? a = some v) : a = ⟨a.block, a.off, none⟩ := by
  obtain ⟨b, o, p⟩ := a
  cases p with
  | none => rfl
  | some x =>
    simp only [World.cell?, Option.isSome_some, if_true] at h
    split at h <;> cases h
theorem bytesD_raw {w : World} {t : BytesV} (h : t.raw w) : (bytesD t).holds (fun b => b < w.heap.size) w := by
  refine ⟨fun r hr => ?_, ?_⟩
  · simp only [bytesR, List.mem_map] at hr
    obtain ⟨x, _, rfl⟩ := hr
    exact ⟨rfl, fun v hv => by simp at hv; subst hv; rfl⟩
  rcases h.rows with h0 | ⟨a, ha, hc⟩
  · exact .inl h0
  · cases hl : t.bs with
    | nil => exact .inl rfl
    | cons x r =>
      have h1 : w.cell? (a.add (0 * 1 + 0)) = some (.int .u8 (x : Int)) := hc 0 [.int .u8 (x : Int)] (by rw [hl]; rfl) 0 _ rfl
      have h2 : a.add (0 * 1 + 0) = a := by simp [Addr.add]
      rw [h2] at h1
      have ea := addr_plain h1
      refine .inr ⟨a.block, a.off, by rw [ha, ← ea], cell_block h1, fun i q hi j v hj => ?_⟩
      have := hc i q (by rw [hl]; exact hi) j v hj
      rw [ea, add_none] at this
      exact this
theorem base_bytes {w w' : World} {R : Nat → Prop} {t : BytesV} (h : t.raw w) (hb : (baseA w).holds R w') : (bytesD t).holds R w' :=
  (bytesD t).stable (fun b hb' => (hb b hb').1) (fun b hb' => (hb b hb').2) (bytesD_raw h)
theorem wf_u8' {x : Int} (h : (Lit.int .u8 x).wf = true) : 0 ≤ x ∧ x ≤ 255 := by
  simp [Lit.wf, IntKind.min, IntKind.max, IntKind.signed, IntKind.bits] at h
  omega
theorem opens_bytes (w : World) : Opens Try.prog w 22 fun cs => ∃ t : BytesV, cs = [t.val] ∧ t.raw w := by
  refine Opens.mono (opens_slice (k := 1) Try.underlying22 (by kernel_rfl) (opens_int Try.underlying5)) ?_
  rintro cs ⟨base, cap, xs, rfl, h1, h2, h3, h4, h5⟩
  obtain ⟨l, rfl, hl⟩ := list_map_of (f := fun (i : Nat) => [Value.int .u8 (i : Int)]) (p := fun i => i ≤ 255) fun r hr => by
    obtain ⟨_, i, hi, rfl⟩ := h2 r hr
    have := wf_u8' hi
    exact ⟨i.toNat, by omega, by rw [show ((i.toNat : Nat) : Int) = i by omega]⟩
  exact ⟨⟨base, cap, l⟩, by simp [BytesV.val], h1, hl⟩

end Go.Proofs.Ytdmkdogakbipbaa

/- JCa -/
namespace Go.Proofs.Ytdmkdogakbipbaa
open Go.SX Go.RowKit
theorem made_check {l : List NodeV} (hml : MadeL l) (h24 : l.length ≤ 24) : ∃ sh, checkR l [] = (0, sh) ∧ ∀ base cap out, 0 ≤ out → out < (l.length : Int) → check ⟨base, cap, l, out⟩ = (0, sh) := by
  obtain ⟨sh, hsh, _⟩ := hml.shapes
  exact ⟨sh, hsh, fun base cap out h0 h1 => check_made hml.one h24 ⟨h0, h1⟩ hsh⟩
theorem made_spans {l : List NodeV} {sh : List (List Int)} (hck : ∀ base cap out, 0 ≤ out → out < (l.length : Int) → check ⟨base, cap, l, out⟩ = (0, sh)) (base : Option Addr) (cap : Nat) (out : Int) (h0 : 0 ≤ out) (h1 : out < l.length) : spansH ⟨base, cap, l, out⟩ = spansQ sh l [] ∧ ∀ inp, valsH ⟨base, cap, l, out⟩ inp = valsQ sh l [] inp := by
  unfold spansH valsH
  rw [hck base cap out h0 h1]
  exact ⟨rfl, fun _ => rfl⟩
end Go.Proofs.Ytdmkdogakbipbaa

/- PK -/
namespace Go.Proofs.Ytdmkdogakbipbaa
open Go.SX Go.RowKit
theorem lay_lt {row : List NodeP} {f : NodeP} : (layP row f).2 < (layP row f).1.length ∧ row.length ≤ (layP row f).1.length := by
  unfold layP
  cases hf : findP row f with
  | some k => exact ⟨(List.getElem?_eq_some_iff.1 (findP_some hf).2).1, Nat.le_refl _⟩
  | none => simp
/-- a node with the places of others that have the same shapes -/
theorem moved_node {pl : List Nat} {n : NodeP} {i : Nat} {sh tsh : List (List Int)} {s : List Int} (h : NodeIn n.toV (sh.take i) s) (hi : (sh.take i).length = i) (hah : AheadP n i) (hp : ∀ k, k < i → pl.getD k 0 < tsh.length ∧ gD tsh (pl.getD k 0) = gD sh k) : NodeIn (movedP pl n).toV tsh s := by
  obtain ⟨e0, ek, ea, ea2, eb, eb2⟩ := moved_eq pl n
  have hf := h.form
  rw [hi] at hf
  have hA : n.kind ≠ 1 → n.kind ≠ 2 → (movedP pl n).a.toNat = pl.getD n.a.toNat 0 := fun h1 h2 => by rw [ea h1 h2]; omega
  have hB : n.kind = 6 → (movedP pl n).b.toNat = pl.getD n.b.toNat 0 := fun h => by rw [eb h]; omega
  refine ⟨?_, ?_, ?_⟩
  · rw [e0]
    refine form_move hf (fun h1 h2 => ?_) (fun h => ?_) (fun h => ?_) (fun h => ?_)
    · have := (hp _ (hah.a1 h1 h2)).1
      rw [ea h1 h2]; omega
    · exact ea2 h
    · have := (hp _ (hah.b1 h)).1
      rw [eb h]; omega
    · exact eb2 h
  · rw [e0, shape_move (sh := sh.take i) (fun h1 h2 => ?_) (fun h => ?_)]
    · exact h.shape
    · show gD tsh (movedP pl n).a.toNat = gD (sh.take i) n.a.toNat
      rw [hA h1 h2, (hp _ (hah.a1 h1 h2)).2, gD_take (hah.a1 h1 h2)]
    · show gD tsh (movedP pl n).b.toNat = gD (sh.take i) n.b.toNat
      rw [hB h, (hp _ (hah.b1 h)).2, gD_take (hah.b1 h)]
  · rw [e0, near_move]; exact h.near
/-- the doubled graph as far as it has come; b: nodes begun -/
structure Dbl (l : List NodeP) (sh : List (List Int)) (i b : Nat) (two : List NodeP) (pl og : List Nat) (tsh : List (List Int)) : Prop where
  chk : checkR (two.map NodeP.toV) [] = (0, tsh)
  lenT : tsh.length = two.length
  lenP : pl.length = i
  lenO : og.length = two.length
  place : ∀ k, k < i → pl.getD k 0 < two.length ∧ og.getD (pl.getD k 0) 0 = k
  orig : ∀ j, j < two.length → og.getD j 0 < b ∧ two[j]? = some (movedP pl (l.getD (og.getD j 0) nilP)) ∧ gD tsh j = gD sh (og.getD j 0)
structure RowIn (l : List NodeP) (sh : List (List Int)) : Prop where
  len : sh.length = l.length
  node : ∀ k, k < l.length → NodeIn (l.getD k nilP).toV (sh.take k) (gD sh k)
theorem RowIn.ahead {l : List NodeP} {sh : List (List Int)} (h : RowIn l sh) {k : Nat} (hk : k < l.length) : AheadP (l.getD k nilP) k := by
  have hf := (h.node k hk).form
  rw [List.length_take, Nat.min_eq_left (by rw [h.len]; omega)] at hf
  exact aheadP_of hf
section
variable {l : List NodeP} {sh : List (List Int)} {i b : Nat} {two : List NodeP} {pl og : List Nat} {tsh : List (List Int)}
theorem Dbl.push (hL : RowIn l sh) (hi : i < l.length) (h : Dbl l sh i b two pl og tsh) (hb : b ≤ i + 1) (hb2 : i ≤ b) : Dbl l sh i (i + 1) (two ++ [movedP pl (l.getD i nilP)]) pl (og ++ [i]) (tsh ++ [gD sh i]) := by
  obtain ⟨h1, h2, h3, h4, h5, h6⟩ := h
  have hah := hL.ahead hi
  have hn := moved_node (pl := pl) (tsh := tsh) (hL.node i hi) (by rw [List.length_take, Nat.min_eq_left (by rw [hL.len]; omega)]) hah (fun k hk => by
    obtain ⟨q1, q2⟩ := h5 k hk
    refine ⟨by omega, ?_⟩
    rw [(h6 _ q1).2.2, q2])
  refine ⟨?_, by simp [h2], h3, by simp [h4], fun k hk => ?_, fun j hj => ?_⟩
  · rw [List.map_append]
    exact checkR_snoc h1 hn.form hn.shape hn.near
  · obtain ⟨q1, q2⟩ := h5 k hk
    exact ⟨by rw [List.length_append]; omega, by rw [getD_old (by omega)]; exact q2⟩
  · rw [List.length_append, List.length_singleton] at hj
    rcases Nat.lt_or_ge j two.length with hlt | hge
    · obtain ⟨q1, q2, q3⟩ := h6 j hlt
      rw [getD_old (by omega), gD_left (by omega), List.getElem?_append_left hlt]
      exact ⟨by omega, q2, q3⟩
    · obtain rfl : j = two.length := by omega
      rw [getD_new h4.symm, gD_last h2.symm, List.getElem?_append_right (Nat.le_refl _), Nat.sub_self]
      exact ⟨by omega, rfl, rfl⟩
end
end Go.Proofs.Ytdmkdogakbipbaa

/- KA -/
namespace Go.Proofs.Ytdmkdogakbipbaa
open Go.SX Go.RowKit
/-- a made graph, whose shapes are known -/
structure MadeS (l : List NodeV) (sh : List (List Int)) : Prop where
  made : MadeL l
  shapes : checkR l [] = (0, sh)
  ok : ∀ s ∈ sh, ShOk s
theorem MadeL.s {l : List NodeV} (h : MadeL l) : ∃ sh, MadeS l sh := by
  obtain ⟨sh, h1, h2⟩ := h.shapes
  exact ⟨sh, h, h1, h2⟩
theorem MadeS.len {l : List NodeV} {sh : List (List Int)} (h : MadeS l sh) : sh.length = l.length := by
  have := checkR_length l [] (by rw [h.shapes])
  rw [h.shapes] at this
  simpa using this
theorem MadeS.snoc {l : List NodeV} {sh : List (List Int)} {n : NodeV} (h : MadeS l sh) (hn : GoodNode n sh) {s : List Int} (hs : shapeO n sh = some s) : MadeS (l ++ [n]) (sh ++ [s]) := by
  obtain ⟨s', h1, h2⟩ := hn.shape
  obtain rfl : s' = s := by rw [hs] at h1; simpa using h1.symm
  exact ⟨madeL_snoc h.made h.shapes hn h.ok, checkR_snoc h.shapes hn.form hs hn.near, fun x hx => by
    rcases List.mem_append.1 hx with hx | hx
    · exact h.ok x hx
    · simp at hx; subst hx; exact h2⟩
theorem MadeS.check {l : List NodeV} {sh : List (List Int)} (h : MadeS l sh) (h24 : l.length ≤ 24) (base : Option Addr) (cap : Nat) {out : Int} (h0 : 0 ≤ out) (h1 : out < l.length) : check ⟨base, cap, l, out⟩ = (0, sh) := check_made h.made.one h24 ⟨h0, h1⟩ h.shapes
theorem MadeS.a {l : List NodeV} {sh : List (List Int)} (h : MadeS l sh) (h24 : l.length ≤ 24) : ∀ n ∈ l, n.a.toNat < sh.length := by
  have h1 := h.made.one
  have hc := h.check h24 none 0 (out := 0) (Int.le_refl _) (by omega)
  intro n hn
  obtain ⟨i, hi⟩ := List.mem_iff_getElem?.1 hn
  have := (place_in (g := ⟨none, 0, l, 0⟩) (by rw [hc]) hi).1.2.1
  rw [hc] at this
  exact this
/-- of inputs that go with the nodes: the spans are beyond the bound, or each node's numbers are told -/
theorem MadeS.run {l : List NodeV} {sh inp : List (List Int)} (h : MadeS l sh) (h24 : l.length ≤ 24) (hg : goodIn l inp) (hsp : (spansQ sh l []).1 = 0) : ∃ vals, valsQ sh l [] inp = (0, vals) ∧ vals.length = l.length ∧ (∀ i, i < l.length → (∀ x ∈ vals.getD i [], bd20 x) ∧ ((vals.getD i []).length : Int) = entries (sh.getD i [])) ∧ ∀ base cap (out : Int), 0 ≤ out → out < l.length → runH ⟨base, cap, l, out⟩ inp = (0, vals.getD out.toNat []) := by
  have h1 := h.made.one
  have hc := fun base cap (out : Int) (h0 : 0 ≤ out) (h1 : out < l.length) => h.check h24 base cap h0 h1
  have hS := made_spans hc
  obtain ⟨q1, q2⟩ := hS none 0 0 (Int.le_refl _) (by omega)
  obtain ⟨kn, v1, v2⟩ := vals_run (g := ⟨none, 0, l, 0⟩) (by rw [q1]; exact hsp) (k := 0) (kn := []) (Nat.zero_le _) rfl ⟨rfl, fun u hu => by simp at hu, fun j u s q hu => by simp at hu⟩ hg
  rw [hc none 0 0 (Int.le_refl _) (by omega)] at v1
  have hkl : kn.length = l.length := v2.len
  have v1 : valsQ sh l [] inp = (0, kn.map IntsV.xs) := v1
  refine ⟨kn.map IntsV.xs, v1, by rw [List.length_map, hkl], fun i hi => ?_, fun base cap out h0 h1 => ?_⟩
  · have := known_argH (g := ⟨none, 0, l, 0⟩) (by rw [q1]; exact hsp) v2 (Nat.le_refl _) i
    rw [← getD_xs]
    refine ⟨this.2.1, ?_⟩
    have e := this.2.2 hi
    rw [hc none 0 0 (Int.le_refl _) (by omega)] at e
    rw [e, List.take_of_length_le (by rw [h.len]; exact Nat.le_refl _)]
  · obtain ⟨r1, r2⟩ := hS base cap out h0 h1
    unfold runH
    rw [r1, r2, if_neg (by omega), v1, if_neg (by simp)]
end Go.Proofs.Ytdmkdogakbipbaa

/- PP -/
namespace Go.Proofs.Ytdmkdogakbipbaa
open Go.SX Go.RowKit
theorem lay_at {row : List NodeP} {f : NodeP} : (layP row f).1.getD (layP row f).2 nilP = f ∧ ∀ j, j < row.length → (layP row f).1.getD j nilP = row.getD j nilP := by
  unfold layP
  cases hf : findP row f with
  | some k =>
    refine ⟨?_, fun j hj => rfl⟩
    show row.getD k nilP = f
    rw [List.getD_eq_getElem?_getD, (findP_some hf).2]; rfl
  | none =>
    refine ⟨?_, fun j hj => ?_⟩
    · show (row ++ [f]).getD row.length nilP = f
      rw [List.getD_eq_getElem?_getD, List.getElem?_append_right (Nat.le_refl _), Nat.sub_self]; rfl
    · show (row ++ [f]).getD j nilP = _
      exact getD_app hj
def cP (d : List Int) : NodeP := ⟨2, 0, 0, [(d.length : Int)], 0, 0, 0, d, []⟩
def pP (n : Nat) : NodeP := ⟨8, n, 0, [], 0, 0, 0, [3, -2, 1], []⟩
def aP (n : Nat) : NodeP := ⟨6, (n : Int) + 1, n, [], 0, 0, 0, [], []⟩
def qL (d : List Int) : List Int := (List.range d.length).map fun o => 1 * d.getD o 0 * d.getD o 0 + -2 * d.getD o 0 + 3
def rL (d : List Int) : List Int := (List.range d.length).map fun o => (qL d).getD o 0 + d.getD o 0
def rP (d : List Int) : NodeP := ⟨2, 0, 0, [(d.length : Int)], 0, 0, 0, rL d, []⟩
theorem entries_len {d : List Int} (h1 : 1 ≤ d.length) (h9 : d.length ≤ 9) : entries [(d.length : Int)] = d.length := entries_one (by omega) (by omega)
theorem const_kept {s : List Int} {row : List NodeP} {st : List Nat} (d : List Int) : foldP s row (movedP st (cP d)) = cP d := by
  have e : movedP st (cP d) = cP d := by unfold movedP; rw [if_pos (.inr rfl)]
  rw [e]
  unfold foldP
  rw [if_neg]
  unfold knownP
  rw [decide_eq_true (show (cP d).kind = 1 ∨ (cP d).kind = 2 from .inr rfl)]; simp
theorem power_folded {row : List NodeP} {st : List Nat} {n : Nat} {d : List Int} (h1 : 1 ≤ d.length) (h9 : d.length ≤ 9) (hc : row.getD (st.getD n 0) nilP = cP d) : foldP [(d.length : Int)] row (movedP st (pP n)) = ⟨2, 0, 0, [(d.length : Int)], 0, 0, 0, qL d, []⟩ := by
  have e : movedP st (pP n) = ⟨8, (st.getD n 0 : Nat), 0, [], 0, 0, 0, [3, -2, 1], []⟩ := by
    unfold movedP
    rw [if_neg (by show ¬ ((8 : Int) = 1 ∨ (8 : Int) = 2); decide), if_neg (by show ¬ (8 : Int) = 6; decide)]
    rfl
  rw [e]
  unfold foldP
  have hk : knownP row ⟨8, (st.getD n 0 : Nat), 0, [], 0, 0, 0, [3, -2, 1], []⟩ = true := by
    unfold knownP constAt
    simp only [Int.toNat_natCast, hc]
    rfl
  rw [if_pos hk]
  congr 1
  unfold numsP numsA
  rw [if_neg (by show ¬ ((8 : Int) = 3 ∨ (8 : Int) = 4 ∨ (8 : Int) = 5); decide)]
  simp only [Int.toNat_natCast, hc]
  unfold numsL qL
  rw [entries_len h1 h9, Int.toNat_natCast]
  refine List.map_congr_left fun o _ => ?_
  unfold numAt powI
  rfl
theorem add_folded {row : List NodeP} {st : List Nat} {n : Nat} {d : List Int} (h1 : 1 ≤ d.length) (h9 : d.length ≤ 9) (hq : row.getD (st.getD (n + 1) 0) nilP = ⟨2, 0, 0, [(d.length : Int)], 0, 0, 0, qL d, []⟩) (hc : row.getD (st.getD n 0) nilP = cP d) : foldP [(d.length : Int)] row (movedP st (aP n)) = rP d := by
  have e : movedP st (aP n) = ⟨6, (st.getD (n + 1) 0 : Nat), (st.getD n 0 : Nat), [], 0, 0, 0, [], []⟩ := by
    unfold movedP
    rw [if_neg (by show ¬ ((6 : Int) = 1 ∨ (6 : Int) = 2); decide), if_pos (by show (6 : Int) = 6; rfl)]
    rfl
  rw [e]
  unfold foldP
  have hk : knownP row ⟨6, (st.getD (n + 1) 0 : Nat), (st.getD n 0 : Nat), [], 0, 0, 0, [], []⟩ = true := by
    unfold knownP constAt
    simp only [Int.toNat_natCast, hc, hq]
    rfl
  rw [if_pos hk]
  unfold rP
  congr 1
  unfold numsP numsA
  rw [if_neg (by show ¬ ((6 : Int) = 3 ∨ (6 : Int) = 4 ∨ (6 : Int) = 5); decide)]
  simp only [Int.toNat_natCast, hc, hq]
  unfold numsL rL
  rw [entries_len h1 h9, Int.toNat_natCast]
  refine List.map_congr_left fun o _ => ?_
  unfold numAt
  rfl
structure Consted (X : List NodeP × Nat) (d : List Int) : Prop where
  lt : X.2 < X.1.length
  at_ : X.1.getD X.2 nilP = rP d
  only : ∀ i, i < X.1.length → ((X.1.getD i nilP).kind ≠ 1 ↔ i = X.2)
theorem const_cut {row : List NodeP} {rsh : List (List Int)} {rsp : List Sp} (hR : RowOk row rsh rsp) {k : Nat} (hk : k < row.length) {d : List Int} (hc : row.getD k nilP = rP d) : Consted ((cutL (needB row k) row 0 ([], [])).1, (cutL (needB row k) row 0 ([], [])).2.getD k 0) d := by
  have hC := cut_at (need := needB row k) hR (need_closed hR hk)
  generalize cutL (needB row k) row 0 ([], []) = Z at *
  have honly : ∀ j, needB row k j = true → j = k := fun j hj => by
    have hr := (need_reach hR.aheads hk j).1 hj
    clear hj
    induction hr with
    | refl => rfl
    | step h ht ih =>
      rw [ih, hc] at ht
      unfold takesP at ht
      rw [if_pos (.inr rfl)] at ht
      simp at ht
  have hkeep : KeepP row (needB row k) k := .inl ((need_reach hR.aheads hk _).2 (.refl _))
  obtain ⟨g1, g2⟩ := hC.get hk hkeep
  have hm : movedP Z.2 (rP d) = rP d := by unfold movedP; rw [if_pos (.inr rfl)]
  rw [hc, hm] at g2
  refine ⟨g1, g2, fun i hi => ⟨fun hki => ?_, fun hi2 => ?_⟩⟩
  · obtain ⟨j, q1, q2, q3⟩ := hC.inv i hi
    rcases q2 with q | q
    · rw [honly j q] at q3; exact q3.symm
    · obtain ⟨r1, r2⟩ := hC.get q1 (.inr q)
      exfalso
      apply hki
      show (Z.1.getD i nilP).kind = 1
      rw [← q3, r2, (moved_eq Z.2 _).2.1]
      exact q
  · show (Z.1.getD i nilP).kind ≠ 1
    rw [hi2, g2]
    show (2 : Int) ≠ 1
    decide
theorem tidy_at {l : List NodeP} {sh : List (List Int)} {sp : List Sp} (hL : RowOk l sh sp) : ∀ i, i ≤ l.length → ∃ row st, TidyAt l sh sp i row st
  | 0, _ => ⟨[], [], tidyAt_start l sh sp⟩
  | i + 1, hi => by
    obtain ⟨row, st, hT⟩ := tidy_at hL i (by omega)
    exact ⟨_, _, hT.step hL (getD_some (by omega))⟩
theorem tidy_const {l : List NodeP} {sh : List (List Int)} {sp : List Sp} {d : List Int} (h1 : 1 ≤ d.length) (h9 : d.length ≤ 9) (hR : RowOk (l ++ [cP d, pP l.length, aP l.length]) (sh ++ [[(d.length : Int)], [(d.length : Int)], [(d.length : Int)]]) sp) (hs : sh.length = l.length) : Consted (tidyP (l ++ [cP d, pP l.length, aP l.length]) (sh ++ [[(d.length : Int)], [(d.length : Int)], [(d.length : Int)]]) (l.length + 2)) d := by
  obtain ⟨row, st, hT⟩ := tidy_at hR l.length (by simp)
  have hlen := hT.len
  have c0 : (l ++ [cP d, pP l.length, aP l.length])[l.length]? = some (cP d) := by rw [List.getElem?_append_right (Nat.le_refl _), Nat.sub_self]; rfl
  have c1 : (l ++ [cP d, pP l.length, aP l.length])[l.length + 1]? = some (pP l.length) := by rw [List.getElem?_append_right (Nat.le_add_right _ _), Nat.add_sub_cancel_left]; rfl
  have c2 : (l ++ [cP d, pP l.length, aP l.length])[l.length + 2]? = some (aP l.length) := by rw [List.getElem?_append_right (Nat.le_add_right _ _), Nat.add_sub_cancel_left]; rfl
  have s0 : gD (sh ++ [[(d.length : Int)], [(d.length : Int)], [(d.length : Int)]]) l.length = [(d.length : Int)] := by
    unfold gD; rw [List.getD_eq_getElem?_getD, List.getElem?_append_right (by omega), hs, Nat.sub_self]; rfl
  have s1 : gD (sh ++ [[(d.length : Int)], [(d.length : Int)], [(d.length : Int)]]) (l.length + 1) = [(d.length : Int)] := by
    unfold gD; rw [List.getD_eq_getElem?_getD, List.getElem?_append_right (by omega), hs, Nat.add_sub_cancel_left]; rfl
  have s2 : gD (sh ++ [[(d.length : Int)], [(d.length : Int)], [(d.length : Int)]]) (l.length + 2) = [(d.length : Int)] := by
    unfold gD; rw [List.getD_eq_getElem?_getD, List.getElem?_append_right (by omega), hs, Nat.add_sub_cancel_left]; rfl
  have h1' := hT.step hR c0
  rw [s0] at h1'
  have e1 : stepP [(d.length : Int)] (row, st) (cP d) = ((layP row (cP d)).1, st ++ [(layP row (cP d)).2]) := by
    unfold stepP
    simp only [const_kept]
  rw [e1] at h1'
  have a1 := lay_at (row := row) (f := cP d)
  have b1 := lay_lt (row := row) (f := cP d)
  generalize layP row (cP d) = L1 at *
  simp only at h1'
  have h2' := h1'.step hR c1
  rw [s1] at h2'
  have g1 : (st ++ [L1.2]).getD l.length 0 = L1.2 := getD_new hlen.symm
  have e2 : stepP [(d.length : Int)] (L1.1, st ++ [L1.2]) (pP l.length) = ((layP L1.1 ⟨2, 0, 0, [(d.length : Int)], 0, 0, 0, qL d, []⟩).1, (st ++ [L1.2]) ++ [(layP L1.1 ⟨2, 0, 0, [(d.length : Int)], 0, 0, 0, qL d, []⟩).2]) := by
    unfold stepP
    simp only
    rw [power_folded h1 h9 (by rw [g1]; exact a1.1)]
  rw [e2] at h2'
  have a2 := lay_at (row := L1.1) (f := ⟨2, 0, 0, [(d.length : Int)], 0, 0, 0, qL d, []⟩)
  have b2 := lay_lt (row := L1.1) (f := ⟨2, 0, 0, [(d.length : Int)], 0, 0, 0, qL d, []⟩)
  generalize layP L1.1 ⟨2, 0, 0, [(d.length : Int)], 0, 0, 0, qL d, []⟩ = L2 at *
  simp only at h2'
  have h3' := h2'.step hR c2
  rw [s2] at h3'
  have g2 : ((st ++ [L1.2]) ++ [L2.2]).getD l.length 0 = L1.2 := by rw [getD_old (by simp; omega)]; exact g1
  have g3 : ((st ++ [L1.2]) ++ [L2.2]).getD (l.length + 1) 0 = L2.2 := getD_new (by simp; omega)
  have e3 : stepP [(d.length : Int)] (L2.1, (st ++ [L1.2]) ++ [L2.2]) (aP l.length) = ((layP L2.1 (rP d)).1, ((st ++ [L1.2]) ++ [L2.2]) ++ [(layP L2.1 (rP d)).2]) := by
    unfold stepP
    simp only
    rw [add_folded h1 h9 (by rw [g3]; exact a2.1) (by rw [g2, a2.2 _ b1.1]; exact a1.1)]
  rw [e3] at h3'
  have a3 := lay_at (row := L2.1) (f := rP d)
  have b3 := lay_lt (row := L2.1) (f := rP d)
  generalize layP L2.1 (rP d) = L3 at *
  simp only at h3'
  have hdone := TidyAt.done (l := l ++ [cP d, pP l.length, aP l.length]) (row := L3.1) (st := ((st ++ [L1.2]) ++ [L2.2]) ++ [L3.2]) (by simpa using h3')
  obtain ⟨rsh, rsp, hRR, _⟩ := h3'.ok
  have g4 : (((st ++ [L1.2]) ++ [L2.2]) ++ [L3.2]).getD (l.length + 2) 0 = L3.2 := getD_new (by simp; omega)
  unfold tidyP
  rw [hdone]
  simp only
  rw [g4]
  exact const_cut hRR b3.1 a3.1
end Go.Proofs.Ytdmkdogakbipbaa

/- PM -/
namespace Go.Proofs.Ytdmkdogakbipbaa
open Go.SX Go.RowKit
theorem span_twin {pl : List Nat} {n : NodeP} {i : Nat} {sh tsh : List (List Int)} {sp tsp : List Sp} (hah : AheadP n i) (hp : ∀ k, k < i → gD tsh (pl.getD k 0) = gD sh k ∧ gS tsp (pl.getD k 0) = gS sp k) (s : List Int) : spanP (movedP pl n) s tsh tsp = spanP n s sh sp := by
  obtain ⟨e0, ek, ea, _, eb, _⟩ := moved_eq pl n
  unfold spanP
  rw [e0, ends_move]
  by_cases h12 : n.kind = 1 ∨ n.kind = 2
  · rw [ends_free (n := n.toV) h12]
  · have ha := hp _ (hah.a1 (by omega) (by omega))
    rw [ea (by omega) (by omega), Int.toNat_natCast, ha.1, ha.2]
    by_cases h6 : n.kind = 6
    · have hb := hp _ (hah.b1 h6)
      rw [eb h6, Int.toNat_natCast, hb.2]
    · rw [ends_freeB (n := n.toV) h6]
section
variable {l : List NodeP} {sh : List (List Int)} {two : List NodeP} {pl og : List Nat} {tsh : List (List Int)}
theorem getD_mapN {α : Type} {f : Nat → α} {d : α} {og : List Nat} {j : Nat} (hj : j < og.length) : (og.map f).getD j d = f (og.getD j 0) := by
  rw [List.getD_eq_getElem?_getD, List.getElem?_map, List.getD_eq_getElem?_getD, List.getElem?_eq_getElem hj]; rfl
theorem Dbl.placeS (h : Dbl l sh l.length l.length two pl og tsh) {k : Nat} (hk : k < l.length) : gD tsh (pl.getD k 0) = gD sh k := by
  obtain ⟨q1, q2⟩ := h.place k hk
  rw [(h.orig _ q1).2.2, q2]
theorem Dbl.to (hL : RowIn l sh) (h : Dbl l sh l.length l.length two pl og tsh) {sp : List Sp} (hR : RowOk l sh sp) (hp : ∀ q ∈ tsh, 0 < entries q) (hN : RowIn two tsh) : RowOk two tsh (og.map fun k => gS sp k) := by
  refine ⟨h.lenT, by rw [List.length_map, h.lenO], hp, fun j p hj => ?_, fun j p hj => ?_⟩
  · have hjl := (List.getElem?_eq_some_iff.1 hj).1
    have := hN.node j hjl
    rw [List.getD_eq_getElem?_getD, hj] at this
    exact this
  · have hjl := (List.getElem?_eq_some_iff.1 hj).1
    obtain ⟨q1, q2, q3⟩ := h.orig j hjl
    rw [hj] at q2
    simp only [Option.some.injEq] at q2
    subst q2
    have hjo : j < og.length := by rw [h.lenO]; exact hjl
    have e1 : gS (og.map fun k => gS sp k) j = gS sp (og.getD j 0) := getD_mapN hjo
    obtain ⟨r1, r2⟩ := hR.span _ _ (getD_some q1)
    have e2 := span_twin (pl := pl) (tsh := tsh) (tsp := og.map fun k => gS sp k) (sh := sh) (sp := sp) (hL.ahead q1) (fun k hk => ⟨h.placeS (by omega), by
      obtain ⟨p1, p2⟩ := h.place k (by omega)
      show (og.map fun k => gS sp k).getD (pl.getD k 0) (0, 0) = _
      rw [getD_mapN (by rw [h.lenO]; exact p1), p2]⟩) (gD tsh j)
    rw [e1, e2, q3]
    exact ⟨r1, r2⟩
theorem Dbl.from (hL : RowIn l sh) (h : Dbl l sh l.length l.length two pl og tsh) {tsp : List Sp} (hR : RowOk two tsh tsp) (hp : ∀ q ∈ sh, 0 < entries q) : RowOk l sh ((List.range l.length).map fun k => gS tsp (pl.getD k 0)) := by
  have eS : ∀ k, k < l.length → gS ((List.range l.length).map fun k => gS tsp (pl.getD k 0)) k = gS tsp (pl.getD k 0) := fun k hk => by
    have := getD_mapN (f := fun k => gS tsp (pl.getD k 0)) (d := (0, 0)) (og := List.range l.length) (j := k) (by rw [List.length_range]; exact hk)
    rw [show (List.range l.length).getD k 0 = k by rw [List.getD_eq_getElem?_getD, List.getElem?_range hk]; rfl] at this
    exact this
  refine ⟨hL.len, by rw [List.length_map, List.length_range], hp, fun j p hj => ?_, fun k p hk => ?_⟩
  · have hjl := (List.getElem?_eq_some_iff.1 hj).1
    have := hL.node j hjl
    rw [List.getD_eq_getElem?_getD, hj] at this
    exact this
  · have hkl := (List.getElem?_eq_some_iff.1 hk).1
    obtain ⟨q1, q2⟩ := h.place k hkl
    obtain ⟨o1, o2, o3⟩ := h.orig _ q1
    rw [q2] at o2 o3
    have ep : l.getD k nilP = p := by rw [List.getD_eq_getElem?_getD, hk]; rfl
    rw [ep] at o2
    obtain ⟨r1, r2⟩ := hR.span _ _ o2
    have hah := hL.ahead hkl
    rw [ep] at hah
    have e2 := span_twin (pl := pl) (tsh := tsh) (tsp := tsp) (sh := sh) (sp := (List.range l.length).map fun k => gS tsp (pl.getD k 0)) hah (fun j hj => ⟨h.placeS (by omega), (eS j (by omega)).symm⟩) (gD tsh (pl.getD k 0))
    rw [eS k hkl, ← o3, ← e2]
    exact ⟨r1, r2⟩
end
end Go.Proofs.Ytdmkdogakbipbaa

/- PQ -/
namespace Go.Proofs.Ytdmkdogakbipbaa
open Go.SX Go.RowKit
def cV (u d : IntsV) : NodeV := ⟨2, 0, 0, u, 0, 0, 0, d, nilI⟩
def pV (n : Nat) (e : IntsV) : NodeV := ⟨8, n, 0, nilI, 0, 0, 0, e, nilI⟩
def aV (n : Nat) : NodeV := ⟨6, (n : Int) + 1, n, nilI, 0, 0, 0, nilI, nilI⟩
theorem near_bd {xs : List Int} (h : ∀ x ∈ xs, bd20 x) : nearL xs = true := by
  unfold nearL
  rw [List.all_eq_true]
  intro x hx
  have := h x hx
  unfold bd20 at this
  exact decide_eq_true ⟨by omega, by omega⟩
theorem near_plain {n : NodeV} (hd : ∀ x ∈ n.data.xs, bd20 x) (hb : n.bias.xs = []) (hl : n.lo = 0) (hh : n.hi = 0) : nearB n = true := by
  unfold nearB
  rw [near_bd hd, hb, hl, hh]
  rfl
theorem const_check {l : List NodeV} {sh : List (List Int)} (hsh : checkR l [] = (0, sh)) {u d e : IntsV} (h1 : 1 ≤ d.xs.length) (h9 : d.xs.length ≤ 9) (hu : u.xs = [(d.xs.length : Int)]) (he : e.xs = [3, -2, 1]) (hb : ∀ x ∈ d.xs, bd20 x) : checkR (((l ++ [cV u d]) ++ [pV l.length e]) ++ [aV l.length]) [] = (0, ((sh ++ [[(d.xs.length : Int)]]) ++ [[(d.xs.length : Int)]]) ++ [[(d.xs.length : Int)]]) := by
  have hl : sh.length = l.length := by have := checkR_length l [] (by rw [hsh]); rw [hsh] at this; simpa using this
  have hE := entries_len (d := d.xs) h1 h9
  have q1 : checkR (l ++ [cV u d]) [] = (0, sh ++ [[(d.xs.length : Int)]]) := by
    refine checkR_snoc hsh ?_ ?_ (near_plain hb rfl rfl rfl)
    · unfold formB lacksB cV
      simp [nilI, hu, hE]; omega
    · unfold shapeO cV
      simp [hu]
  have g1 : (sh ++ [[(d.xs.length : Int)]]).getD ((l.length : Nat) : Int).toNat [] = [(d.xs.length : Int)] := by
    rw [Int.toNat_natCast]
    exact gD_last hl.symm
  have q2 : checkR ((l ++ [cV u d]) ++ [pV l.length e]) [] = (0, (sh ++ [[(d.xs.length : Int)]]) ++ [[(d.xs.length : Int)]]) := by
    refine checkR_snoc q1 ?_ ?_ (near_plain (n := pV l.length e) (by show ∀ x ∈ e.xs, bd20 x; rw [he]; intro x hx; unfold bd20; simp at hx; omega) rfl rfl rfl)
    · unfold formB lacksB aheadB pV
      simp [nilI, he, hl]; omega
    · unfold shapeO pV
      simp only [g1]
      simp
  refine checkR_snoc q2 ?_ ?_ (near_plain (n := aV l.length) (fun x hx => by simp [aV, nilI] at hx) rfl rfl rfl)
  · unfold formB lacksB aheadB aV
    simp [nilI, hl]; omega
  · have g2 : ((sh ++ [[(d.xs.length : Int)]]) ++ [[(d.xs.length : Int)]]).getD (((l.length : Nat) : Int) + 1).toNat [] = [(d.xs.length : Int)] := by
      rw [show (((l.length : Nat) : Int) + 1).toNat = l.length + 1 by omega]
      exact gD_last (by simp [hl])
    have g3 : ((sh ++ [[(d.xs.length : Int)]]) ++ [[(d.xs.length : Int)]]).getD ((l.length : Nat) : Int).toNat [] = [(d.xs.length : Int)] := by
      rw [Int.toNat_natCast]
      show gD _ _ = _
      rw [gD_left (by simp [hl])]
      exact gD_last hl.symm
    unfold shapeO aV
    simp only [g2, g3]
    simp
theorem const_graph {l : List NodeV} {sh : List (List Int)} (hsh : checkR l [] = (0, sh)) (h20 : l.length ≤ 20) {u d e : IntsV} (h1 : 1 ≤ d.xs.length) (h9 : d.xs.length ≤ 9) (hu : u.xs = [(d.xs.length : Int)]) (he : e.xs = [3, -2, 1]) (hb : ∀ x ∈ d.xs, bd20 x) {g : GraphV} (hg : g.l = l ++ [cV u d, pV l.length e, aV l.length]) (ho : g.out = (l.length : Int) + 2) :
    ((spansH g).1 = 0 ∨ (spansH g).1 = 5) ∧ ((spansH g).1 = 0 → Consted (tidyP (g.l.map NodeV.pl) (check g).2 g.out.toNat) d.xs) := by
  have hl : sh.length = l.length := by have := checkR_length l [] (by rw [hsh]); rw [hsh] at this; simpa using this
  have hc := const_check hsh h1 h9 hu he hb
  have el : ((l ++ [cV u d]) ++ [pV l.length e]) ++ [aV l.length] = l ++ [cV u d, pV l.length e, aV l.length] := by simp
  have es : ((sh ++ [[(d.xs.length : Int)]]) ++ [[(d.xs.length : Int)]]) ++ [[(d.xs.length : Int)]] = sh ++ [[(d.xs.length : Int)], [(d.xs.length : Int)], [(d.xs.length : Int)]] := by simp
  rw [el, es] at hc
  have hgl : g.l.length = l.length + 3 := by rw [hg]; simp
  have hck : check g = (0, sh ++ [[(d.xs.length : Int)], [(d.xs.length : Int)], [(d.xs.length : Int)]]) := by
    unfold check
    rw [if_neg (by omega), hg]
    exact hc
  refine ⟨?_, fun hs => ?_⟩
  · by_cases hs : (spansH g).1 = 0
    · exact .inl hs
    · right
      unfold spansH at hs ⊢
      rw [hck, if_neg (by simp)] at hs ⊢
      rw [spansQ_or.resolve_left hs]
  · have hR := rowOk_graph hs
    rw [hck] at hR ⊢
    have em : g.l.map NodeV.pl = l.map NodeV.pl ++ [cP d.xs, pP (l.map NodeV.pl).length, aP (l.map NodeV.pl).length] := by
      rw [hg, List.map_append, List.length_map]
      congr 1
      simp only [List.map_cons, List.map_nil]
      unfold cV pV aV cP pP aP NodeV.pl
      simp [nilI, hu, he]
    rw [em] at hR ⊢
    rw [ho, show ((l.length : Int) + 2).toNat = (l.map NodeV.pl).length + 2 by rw [List.length_map]; omega]
    exact tidy_const h1 h9 hR (by rw [List.length_map]; exact hl)
end Go.Proofs.Ytdmkdogakbipbaa

/- PI -/
namespace Go.Proofs.Ytdmkdogakbipbaa
open Go.SX Go.RowKit
theorem tidied_few {g : GraphV} (hsp : (spansH g).1 = 0) : (tidyP (g.l.map NodeV.pl) (check g).2 g.out.toNat).1.length ≤ g.l.length ∧ (tidyP (g.l.map NodeV.pl) (check g).2 g.out.toNat).2 < (tidyP (g.l.map NodeV.pl) (check g).2 g.out.toNat).1.length := by
  obtain ⟨hck, _, _⟩ := spansH_in hsp
  obtain ⟨hl1, hl24, hout, hcl, hin⟩ := check_in hck
  obtain ⟨rsh, rsp, hR, h2, h3, _⟩ := tidyP_again (rowOk_graph hsp) (out := g.out.toNat) (by rw [List.length_map]; omega)
  rw [List.length_map] at h3
  exact ⟨h3, h2⟩
end Go.Proofs.Ytdmkdogakbipbaa

/- NP -/
namespace Go.Proofs.Ytdmkdogakbipbaa
open Go.SX Go.RowKit
end Go.Proofs.Ytdmkdogakbipbaa

/- NQ -/
namespace Go.Proofs.Ytdmkdogakbipbaa
open Go.SX Go.RowKit
end Go.Proofs.Ytdmkdogakbipbaa

/- JE -/
namespace Go.Proofs.Ytdmkdogakbipbaa
open Go.SX Go.RowKit
def setT (r : List Int) (t : Sp) : List Int := r.set t.2.toNat t.1
end Go.Proofs.Ytdmkdogakbipbaa

/- JF -/
namespace Go.Proofs.Ytdmkdogakbipbaa
open Go.SX Go.RowKit
def matRow (n : NodeV) (tl : List Int) (o : Nat) : List Int :=
  if n.kind = 3 then (n.data.xs.drop (o * (entries tl).toNat)).take (entries tl).toNat else (termsG n tl o).foldl setT (List.replicate (entries tl).toNat 0)
def matRows (n : NodeV) (tl : List Int) (cnt : Nat) : List (List Int) := (List.range cnt).map (matRow n tl)
def matBias (n : NodeV) (cnt : Nat) : List Int := (List.range cnt).map (biasI n cnt)
end Go.Proofs.Ytdmkdogakbipbaa

/- JG -/
namespace Go.Proofs.Ytdmkdogakbipbaa
open Go.SX Go.RowKit
/-- what Matrix hands back -/
structure MatV where
  rows : ShapesV
  bias : IntsV
  own : Bool
def MatV.val (x : MatV) : Value := .tuple #[x.rows.val, x.bias.val]
structure MatIs (n : NodeV) (tl : List Int) (cnt : Nat) (x : MatV) : Prop where
  rows : x.rows.l.map IntsV.xs = matRows n tl cnt
  bias : x.bias.xs = matBias n cnt
  sane : ∀ u ∈ x.rows.l, u.sane
  biasSane : x.bias.sane
  old : x.own = false → x.bias = n.bias ∧ ∀ w, n.data.ok w → ∀ u ∈ x.rows.l, u.ok w
end Go.Proofs.Ytdmkdogakbipbaa

/- JH -/
namespace Go.Proofs.Ytdmkdogakbipbaa
open Go.SX Go.RowKit
end Go.Proofs.Ytdmkdogakbipbaa

/- JI -/
namespace Go.Proofs.Ytdmkdogakbipbaa
open Go.SX Go.RowKit
theorem ro_intv {a : Addr} {j : Nat} {S : Asn} {xs : List Int} {v : Int} {K : SV → Prop} (hx : ∀ R w, S.holds R w → RowsI w (some a) 1 (ints xs)) (hj : j < xs.length) (e : xs.getD j 0 = v) (h : K (.c (.int .i64 v))) : roK (a.add (j * 1)) S K := by
  subst e; exact ro_int hx hj h
/-- rows so far -/
structure Sofar3 (n : NodeV) (tl : List Int) (us : List IntsV) (o : Nat) : Prop where
  rows : us.map IntsV.xs = (List.range o).map (matRow n tl)
  sane : ∀ u ∈ us, u.sane
theorem Sofar3.len {n : NodeV} {tl : List Int} {us : List IntsV} {o : Nat} (h : Sofar3 n tl us o) : us.length = o := by
  have := congrArg List.length h.rows
  simpa using this
theorem Sofar3.next {n : NodeV} {tl : List Int} {us : List IntsV} {o : Nat} {u : IntsV} (h : Sofar3 n tl us o) (hu : u.sane) (hx : u.xs = matRow n tl o) : Sofar3 n tl (us ++ [u]) (o + 1) := by
  refine ⟨by rw [List.map_append, h.rows, List.range_succ, List.map_append, List.map_cons, List.map_nil, List.map_cons, List.map_nil, hx], fun v hv => ?_⟩
  rcases List.mem_append.1 hv with hv | hv
  · exact h.sane v hv
  · rw [List.mem_singleton.1 hv]; exact hu
end Go.Proofs.Ytdmkdogakbipbaa

/- JJ -/
namespace Go.Proofs.Ytdmkdogakbipbaa
open Go.SX Go.RowKit
end Go.Proofs.Ytdmkdogakbipbaa

/- JK -/
namespace Go.Proofs.Ytdmkdogakbipbaa
open Go.SX Go.RowKit
structure SofarC (n : NodeV) (tl : List Int) (cnt : Nat) (us : List IntsV) (bs : List Int) (m : Nat) : Prop where
  rows : Sofar3 n tl us m
  bias : bs = (List.range m).map (biasI n cnt)
theorem SofarC.next {n : NodeV} {tl : List Int} {cnt : Nat} {us : List IntsV} {bs : List Int} {m : Nat} {u : IntsV} {b : Int} (h : SofarC n tl cnt us bs m) (hu : u.sane) (hx : u.xs = matRow n tl m) (hb : biasI n cnt m = b) : SofarC n tl cnt (us ++ [u]) (bs ++ [b]) (m + 1) :=
  ⟨h.rows.next hu hx, by rw [h.bias, ← hb, List.range_succ, List.map_append]; rfl⟩
end Go.Proofs.Ytdmkdogakbipbaa

/- JL -/
namespace Go.Proofs.Ytdmkdogakbipbaa
open Go.SX Go.RowKit
end Go.Proofs.Ytdmkdogakbipbaa

/- JM -/
namespace Go.Proofs.Ytdmkdogakbipbaa
open Go.SX Go.RowKit
end Go.Proofs.Ytdmkdogakbipbaa

/- JN -/
namespace Go.Proofs.Ytdmkdogakbipbaa
open Go.SX Go.RowKit
end Go.Proofs.Ytdmkdogakbipbaa

/- JO -/
namespace Go.Proofs.Ytdmkdogakbipbaa
open Go.SX Go.RowKit
theorem MatIs.row {n : NodeV} {tl : List Int} {cnt : Nat} {x : MatV} (h : MatIs n tl cnt x) {o : Nat} (ho : o < x.rows.l.length) : x.rows.l.length = cnt ∧ x.rows.l[o].xs = matRow n tl o ∧ x.bias.xs.length = cnt ∧ x.bias.xs.getD o 0 = biasI n cnt o := by
  have h1 : x.rows.l.length = cnt := by
    have := congrArg List.length h.rows
    simpa [matRows] using this
  have h2 : (x.rows.l.map IntsV.xs)[o]? = ((List.range cnt).map (matRow n tl))[o]? := by rw [h.rows]; rfl
  rw [List.getElem?_map, List.getElem?_eq_getElem ho, List.getElem?_map, List.getElem?_range (by omega)] at h2
  have h3 : x.bias.xs.length = cnt := by rw [h.bias]; simp [matBias]
  refine ⟨h1, by simpa using h2, h3, ?_⟩
  rw [h.bias, matBias, List.getD_eq_getElem?_getD, List.getElem?_map, List.getElem?_range (by omega)]; rfl
theorem MatIs.count {n : NodeV} {tl : List Int} {cnt : Nat} {x : MatV} (h : MatIs n tl cnt x) : x.rows.l.length = cnt := by
  have := congrArg List.length h.rows
  simpa [matRows] using this
end Go.Proofs.Ytdmkdogakbipbaa

/- JP -/
namespace Go.Proofs.Ytdmkdogakbipbaa
open Go.SX Go.RowKit
end Go.Proofs.Ytdmkdogakbipbaa

/- JQ -/
namespace Go.Proofs.Ytdmkdogakbipbaa
open Go.SX Go.RowKit
end Go.Proofs.Ytdmkdogakbipbaa

/- JV -/
namespace Go.Proofs.Ytdmkdogakbipbaa
open Go.SX Go.RowKit
end Go.Proofs.Ytdmkdogakbipbaa

/- JR -/
namespace Go.Proofs.Ytdmkdogakbipbaa
open Go.SX Go.RowKit
end Go.Proofs.Ytdmkdogakbipbaa

/- JW -/
namespace Go.Proofs.Ytdmkdogakbipbaa
open Go.SX Go.RowKit
end Go.Proofs.Ytdmkdogakbipbaa

/- JS -/
namespace Go.Proofs.Ytdmkdogakbipbaa
open Go.SX Go.RowKit
end Go.Proofs.Ytdmkdogakbipbaa

/- JX -/
namespace Go.Proofs.Ytdmkdogakbipbaa
open Go.SX Go.RowKit
abbrev Mix := IntsV × Bool
def mixA (N : Nat) (l : List Mix) : Asn where
  holds R w := ∀ p ∈ l, p.2 = false → (newA N p.1).holds R w
  stable := fun hR hw h p hp e => (newA N p.1).stable hR hw (h p hp e)
structure MixIn (src : List IntsV) (l : List Mix) : Prop where
  sane : ∀ p ∈ l, p.1.sane
  old : ∀ p ∈ l, p.2 = true → p.1 ∈ src
theorem MixIn.ok {src : List IntsV} {w w' : World} {R : Nat → Prop} {N : Nat} {l : List Mix} (h : MixIn src l) (hs : ∀ u ∈ src, u.ok w) (hb : (baseA w).holds R w') (hm : (mixA N l).holds R w') : ∀ u ∈ l.map Prod.fst, u.ok w' := fun u hu => by
  obtain ⟨p, hp, rfl⟩ := List.mem_map.1 hu
  cases e : p.2 with
  | true => exact (hs _ (h.old p hp e)).later hb
  | false => exact intsA_ok (h.sane p hp) ((intsA p.1).mono (hm p hp e) (fun b hb => hb.1))
theorem MixIn.snoc {src : List IntsV} {l : List Mix} {p : Mix} (h : MixIn src l) (hs : p.1.sane) (ho : p.2 = true → p.1 ∈ src) : MixIn src (l ++ [p]) := by
  refine ⟨fun q hq => ?_, fun q hq => ?_⟩
  · rcases List.mem_append.1 hq with hq | hq
    · exact h.sane q hq
    · rw [List.mem_singleton.1 hq]; exact hs
  · rcases List.mem_append.1 hq with hq | hq
    · exact h.old q hq
    · rw [List.mem_singleton.1 hq]; exact ho
end Go.Proofs.Ytdmkdogakbipbaa

/- NR -/
namespace Go.Proofs.Ytdmkdogakbipbaa
open Go.SX Go.RowKit
end Go.Proofs.Ytdmkdogakbipbaa

/- NS -/
namespace Go.Proofs.Ytdmkdogakbipbaa
open Go.SX Go.RowKit
section
variable {P : IntsV → Prop} {N : Nat}
end
end Go.Proofs.Ytdmkdogakbipbaa

/- NT -/
namespace Go.Proofs.Ytdmkdogakbipbaa
open Go.SX Go.RowKit
end Go.Proofs.Ytdmkdogakbipbaa

/- NU -/
namespace Go.Proofs.Ytdmkdogakbipbaa
open Go.SX Go.RowKit
end Go.Proofs.Ytdmkdogakbipbaa

