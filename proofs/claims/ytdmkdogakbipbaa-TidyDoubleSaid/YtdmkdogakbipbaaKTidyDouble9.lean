import Derived.Test.YtdmkdogakbipbaaKTidyDouble8
/- GY -/
namespace Go.Proofs.Ytdmkdogakbipbaa
abbrev dtGY0 : Go.SX.DT := (.take 0 (.take 3 (.take 4 (.take 5 (.take 6 (.take 7 (.take 8 (.take 9 (.take 10 (.take 13 (.take 14 (.take 15 (.take 16 (.take 17 (.one 1 (.take 2 (.one 11 (.take 12 (.one 18 (.take 19 (.one 20 (.take 21 (.done)))))))))))))))))))))))
abbrev dtGY1 : Go.SX.DT := (.take 0 (.take 1 (.take 2 (.take 3 (.take 4 (.take 5 (.take 6 (.take 7 (.take 8 (.take 9 (.take 10 (.take 11 (.take 12 (.take 13 (.take 14 (.take 15 (.take 16 (.take 17 (.take 19 (.take 20 (.take 21 (.take 22 (.one 18 (.one 23 (.take 24 (.one 25 (.done)))))))))))))))))))))))))))
open Go.SX Go.RowKit
/-- what the function that makes a node hands back -/
structure NodeOut (sv : ShapesV) (x : NodeV × Bool) : Prop where
  good : GoodNode x.1 (sv.l.map (·.xs))
  alias_ : x.2 = true → x.1.shape ∈ sv.l
abbrev NPost (w : World) (b : Nat) (t : BytesV) (sv : ShapesV) : Ending → World → Prop := TPost w b t (fun x : NodeV × Bool => x.1.valA) (fun x => nodeD x.1 x.2) (NodeOut sv)
/-- the ending: a node whose numbers are at hand -/
theorem ends_node {w : World} {b : Nat} {t : BytesV} {sv : ShapesV} {H : Heap} {S : Asn} {nx k : Nat} {v : SV} (h0 : (0, Ent.box (cs (tcells t k)) 30) ∈ H) (hk : k ≤ t.bs.length) (hS : ∀ R w', S.holds R w' → (restA w b).holds R w')
    (h : ∀ ρ w', Abs ⟨w, [(0, boxL b)]⟩ ρ nx H S w' → ∃ x : NodeV × Bool, v.rf ρ = x.1.valA ∧ NodeOut sv x ∧ (nodeD x.1 x.2).holds (fun y => w.heap.size ≤ y ∧ y < w'.heap.size) w') : finK ⟨w, [(0, boxL b)]⟩ v H S nx (NPost w b t sv) :=
  fin_of fun ρ w' hw => by
    obtain ⟨x, e, hx, hd⟩ := h ρ w' hw
    exact ⟨(x, k), ⟨hx, hk⟩, by rw [e], (box_end hw hS h0).1, (box_end hw hS h0).2, hd⟩
/-- one's own numbers at a node's end -/
theorem shapes_get {sv : ShapesV} {i : Nat} (h : i < sv.l.length) : (sv.l.map (·.xs)).getD i [] = sv.l[i].xs := by simp [List.getD, h]
theorem smallL1 {x : Int} (h : -4 ≤ x ∧ x ≤ 4) : smallL [x] := fun y hy => by simp at hy; subst hy; exact h
theorem smallL3 {x y z : Int} (h1 : -4 ≤ x ∧ x ≤ 4) (h2 : -4 ≤ y ∧ y ≤ 4) (h3 : -4 ≤ z ∧ z ≤ 4) : smallL [x, y, z] := fun u hu => by
  simp only [List.mem_cons, List.not_mem_nil, or_false] at hu
  rcases hu with rfl | rfl | rfl <;> assumption
theorem agg_shape {ρ : Nat → SX.Loc} {v : SV} {u : IntsV} {k a b c d e : Int} {x y : Value} (h : v.rf ρ = u.val) : (SV.agg [.c (.int .i64 k), .c (.int .i64 a), .c (.int .i64 b), v, .c (.int .i64 c), .c (.int .i64 d), .c (.int .i64 e), .c x, .c y]).rf ρ = .agg #[.int .i64 k, .int .i64 a, .int .i64 b, u.val, .int .i64 c, .int .i64 d, .int .i64 e, x, y] := by
  simp only [SV.rf, SV.rfs] at h ⊢
  rw [h]
theorem agg_data {ρ : Nat → SX.Loc} {v : SV} {u : IntsV} {k a b c d e : Int} {x y : Value} (h : v.rf ρ = u.val) : (SV.agg [.c (.int .i64 k), .c (.int .i64 a), .c (.int .i64 b), .c x, .c (.int .i64 c), .c (.int .i64 d), .c (.int .i64 e), v, .c y]).rf ρ = .agg #[.int .i64 k, .int .i64 a, .int .i64 b, x, .int .i64 c, .int .i64 d, .int .i64 e, u.val, y] := by
  simp only [SV.rf, SV.rfs] at h ⊢
  rw [h]
set_option maxRecDepth 20000 in
set_option maxHeartbeats 8000000 in
theorem node_any (w : World) (b : Nat) (t : BytesV) (k : Nat) (h : TapeOk w b t k) (sv : ShapesV) (hsv : (shapesD sv).holds (oth w b) w) (hl : 1 ≤ sv.l.length ∧ sv.l.length ≤ 23) (hsane : ∀ u ∈ sv.l, u.sane) (hok : ∀ u ∈ sv.l, ShOk u.xs) :
    Calls Try.prog 42 #[.pointer (some ⟨b, 0, none⟩), sv.val] w (NPost w b t sv) := by
  obtain ⟨hs, hby, hd, hk, hb⟩ := h
  obtain ⟨sb, hsb⟩ : ∃ a, sv.base = some a := base_some (j := 0) (rowsA_in hsv.1) (by rw [shRows_length]; omega)
  have hlm : (sv.l.map (·.xs)).length = sv.l.length := List.length_map _
  refine calls_of tab tabOk Try.func42 rfl rfl rfl [(0, boxL b)] (fun _ => boxL b) [.lp 0 0 0 0, .c sv.val] _ (restA w b) 1 (by simp [SV.rfs, SV.rf, boxL, add_none]) rfl (by show 2 ≤ _; decide) (abs_box hb) ?_
  (repeat' ((conv => whnf) <;> first | (show drawK _ 13 _ _ _ _ _ _; refine draw_tree tabOk mixed [] _ dtGY0 (by kernel_rfl) (by kernel_rfl) (by kernel_rfl) (List.Sublist.refl _) ?_) | (show drawK _ 14 _ _ _ _ _ _; refine draw_tree tabOk mixed [25] _ dtGY1 (by kernel_rfl) (by kernel_rfl) (by kernel_rfl) (List.Sublist.refl _) ?_) | (show Wp _ _ _ _ _ _ _; refine Wp.go tabOk rfl ?_) | (show @cmpK _ _ _; (first | refine cmpY ?_ | refine cmpN ?_ | (refine cmp_both ?_ ?_ <;> intro _))) | (show wrapK _ _ _; refine wrapA ?_) | (show leK _ _ _; refine leA ?_) | (show roomK _ _ _; refine roomA ?_) | (show ltK _ _ _; refine ltA ?_) | (show _ ∧ _; refine ⟨?_, ?_⟩) | (show keepK _ _ _ _ _; refine keepA ?_) | refine own_keep ?_ | refine ap_old ?_))
  all_goals
    first
      | refine call_num (f := 41) [.int .i64 3] t k _ (by first | exact List.mem_cons_self | exact List.mem_cons_of_mem _ List.mem_cons_self | (repeat (first | exact List.mem_cons_self | apply List.mem_cons_of_mem))) Try.call41 hs hby hk (fun R w' h => rest_holds hd (by first | exact h | exact h.1 | exact h.1.1 | exact h.1.1.1)) (fun w' b' ht => next_any w' b' t k ht 3 ⟨by decide, by decide⟩) (fun r k1 hr hk1 => ?_)
      | refine call_num (f := 41) [.int .i64 sv.l.length] t k _ (by first | exact List.mem_cons_self | exact List.mem_cons_of_mem _ List.mem_cons_self | (repeat (first | exact List.mem_cons_self | apply List.mem_cons_of_mem))) Try.call41 hs hby hk (fun R w' h => rest_holds hd (by first | exact h | exact h.1 | exact h.1.1 | exact h.1.1.1)) (fun w' b' ht => next_any w' b' t k ht sv.l.length ⟨by omega, by omega⟩) (fun r k1 hr hk1 => ?_)
    obtain ⟨i, hia, hil⟩ : ∃ i : Nat, (sv.l.length : Int) - 1 - r = i ∧ i < sv.l.length := ⟨((sv.l.length : Int) - 1 - r).toNat, by have := hr.1; have := hr.2.1; have := hr.2.2; omega, by have := hr.1; have := hr.2.1; have := hr.2.2; omega⟩
    have hgi := shapes_get hil
    have hum := List.getElem_mem hil
    have hrow := shRows_get hil
    generalize sv.l[i] = u at *
    have hus := hsane u hum
    have huo := hok u hum
    have hup := huo.pos
    have huf := huo.few
    have hi2 : i < (sv.l.map (·.xs)).length := by rw [hlm]; exact hil
    have h24 : (sv.l.map (·.xs)).length ≤ 24 := by rw [hlm]; omega
    have hr0 := hr.1
    have hr1 := hr.2.1
    have hr2 := hr.2.2
    (repeat' ((conv => whnf) <;> first | (show idxK _ _ _ _ _; refine idx_of sb i hsb hia hil ?_) | (show roK _ _ _; (refine ro_row0 (fun R w' h => by rw [← hsb]; exact rowsA_in (rest_holds hsv h).1) _ _ hrow rfl ?_)) | (show callK _ 34 _ _ _ _ _; refine call_pure (f := 34) Try.call34 (.int .i64 (entries u.xs)) (fun ρ w' hw => refEntries_any w' u.base u.cap u.xs (holds_of_abs hw fun R h => rowsA_in ((rest_holds hsv h).2 u hum))) ?_) | (show drawK _ 13 _ _ _ _ _ _; refine draw_tree tabOk mixed [] _ dtGY0 (by kernel_rfl) (by kernel_rfl) (by kernel_rfl) (List.Sublist.refl _) ?_) | (show drawK _ 14 _ _ _ _ _ _; refine draw_tree tabOk mixed [25] _ dtGY1 (by kernel_rfl) (by kernel_rfl) (by kernel_rfl) (List.Sublist.refl _) ?_) | (show Wp _ _ _ _ _ _ _; refine Wp.go tabOk rfl ?_) | (show @cmpK _ _ _; (first | refine cmpY ?_ | refine cmpN ?_ | (refine cmp_both ?_ ?_ <;> intro _))) | (show wrapK _ _ _; refine wrapA ?_) | (show leK _ _ _; refine leA ?_) | (show roomK _ _ _; refine roomA ?_) | (show ltK _ _ _; refine ltA ?_) | (show _ ∧ _; refine ⟨?_, ?_⟩) | (show keepK _ _ _ _ _; refine keepA ?_) | refine own_keep ?_ | refine ap_old ?_))
    refine call_num (f := 41) [.int .i64 9] t k1 _ (by first | exact List.mem_cons_self | exact List.mem_cons_of_mem _ List.mem_cons_self | (repeat (first | exact List.mem_cons_self | apply List.mem_cons_of_mem))) Try.call41 hs hby hk1 (fun R w' h => rest_holds hd (by first | exact h | exact h.1 | exact h.1.1 | exact h.1.1.1)) (fun w' b' ht => next_any w' b' t k1 ht 9 ⟨by decide, by decide⟩) (fun q k2 hq hk2 => ?_)
    have hq9 : q = 0 ∨ q = 1 ∨ q = 2 ∨ q = 3 ∨ q = 4 ∨ q = 5 ∨ q = 6 ∨ q = 7 ∨ q = 8 := by have := hq.1; have := hq.2.1 (by omega); omega
    rcases hq9 with rfl | rfl | rfl | rfl | rfl | rfl | rfl | rfl | rfl
    · (repeat' ((conv => whnf) <;> first | (show drawK _ 13 _ _ _ _ _ _; refine draw_tree tabOk mixed [] _ dtGY0 (by kernel_rfl) (by kernel_rfl) (by kernel_rfl) (List.Sublist.refl _) ?_) | (show drawK _ 14 _ _ _ _ _ _; refine draw_tree tabOk mixed [25] _ dtGY1 (by kernel_rfl) (by kernel_rfl) (by kernel_rfl) (List.Sublist.refl _) ?_) | (show Wp _ _ _ _ _ _ _; refine Wp.go tabOk rfl ?_) | (show @cmpK _ _ _; (first | refine cmpY ?_ | refine cmpN ?_ | (refine cmp_both ?_ ?_ <;> intro _))) | (show wrapK _ _ _; refine wrapA ?_) | (show leK _ _ _; refine leA ?_) | (show roomK _ _ _; refine roomA ?_) | (show ltK _ _ _; refine ltA ?_) | (show _ ∧ _; refine ⟨?_, ?_⟩) | (show keepK _ _ _ _ _; refine keepA ?_) | refine own_keep ?_ | refine ap_old ?_))
      refine call_t (f := 71) [.int .i64 (entries u.xs)] t k2 IntsV.val intsA _ (by first | exact List.mem_cons_self | exact List.mem_cons_of_mem _ List.mem_cons_self | (repeat (first | exact List.mem_cons_self | apply List.mem_cons_of_mem))) Try.call71 hs hby hk2 (fun R w' h => rest_holds hd (by first | exact h | exact h.1 | exact h.1.1 | exact h.1.1.1)) (fun R w' b' ht _ _ => row_any w' b' t k2 ht (entries u.xs) (by omega) (by omega)) (fun d k3 hdd hk3 => ?_)
      (repeat' ((conv => whnf) <;> first | (show drawK _ 13 _ _ _ _ _ _; refine draw_tree tabOk mixed [] _ dtGY0 (by kernel_rfl) (by kernel_rfl) (by kernel_rfl) (List.Sublist.refl _) ?_) | (show drawK _ 14 _ _ _ _ _ _; refine draw_tree tabOk mixed [25] _ dtGY1 (by kernel_rfl) (by kernel_rfl) (by kernel_rfl) (List.Sublist.refl _) ?_) | (show Wp _ _ _ _ _ _ _; refine Wp.go tabOk rfl ?_) | (show @cmpK _ _ _; (first | refine cmpY ?_ | refine cmpN ?_ | (refine cmp_both ?_ ?_ <;> intro _))) | (show wrapK _ _ _; refine wrapA ?_) | (show leK _ _ _; refine leA ?_) | (show roomK _ _ _; refine roomA ?_) | (show ltK _ _ _; refine ltA ?_) | (show _ ∧ _; refine ⟨?_, ?_⟩) | (show keepK _ _ _ _ _; refine keepA ?_) | refine own_keep ?_ | refine ap_old ?_))
      conv => whnf
      exact ends_node (by first | exact List.mem_cons_self | exact List.mem_cons_of_mem _ List.mem_cons_self | (repeat (first | exact List.mem_cons_self | apply List.mem_cons_of_mem))) hk3 (fun _ _ h => h.1) (fun ρ w' hw => ⟨(⟨2, 0, 0, u, 0, 0, 0, d, nilI⟩, true), rfl, ⟨good_const hus huo hdd.2.2 (by rw [hdd.1]; omega) hdd.2.1, fun _ => hum⟩, ⟨fun e => (by cases e), past_new hw (fun _ _ h => h.2), nilI_holds _ _⟩⟩)
    · (repeat' ((conv => whnf) <;> first | (show drawK _ 13 _ _ _ _ _ _; refine draw_tree tabOk mixed [] _ dtGY0 (by kernel_rfl) (by kernel_rfl) (by kernel_rfl) (List.Sublist.refl _) ?_) | (show drawK _ 14 _ _ _ _ _ _; refine draw_tree tabOk mixed [25] _ dtGY1 (by kernel_rfl) (by kernel_rfl) (by kernel_rfl) (List.Sublist.refl _) ?_) | (show Wp _ _ _ _ _ _ _; refine Wp.go tabOk rfl ?_) | (show @cmpK _ _ _; (first | refine cmpY ?_ | refine cmpN ?_ | (refine cmp_both ?_ ?_ <;> intro _))) | (show wrapK _ _ _; refine wrapA ?_) | (show leK _ _ _; refine leA ?_) | (show roomK _ _ _; refine roomA ?_) | (show ltK _ _ _; refine ltA ?_) | (show _ ∧ _; refine ⟨?_, ?_⟩) | (show keepK _ _ _ _ _; refine keepA ?_) | refine own_keep ?_ | refine ap_old ?_))
      refine call_num (f := 41) [.int .i64 4] t k2 _ (by first | exact List.mem_cons_self | exact List.mem_cons_of_mem _ List.mem_cons_self | (repeat (first | exact List.mem_cons_self | apply List.mem_cons_of_mem))) Try.call41 hs hby hk2 (fun R w' h => rest_holds hd (by first | exact h | exact h.1 | exact h.1.1 | exact h.1.1.1)) (fun w' b' ht => next_any w' b' t k2 ht 4 ⟨by omega, by omega⟩) (fun o k3 ho hk3 => ?_)
      have ho0 := ho.1
      have ho1 := ho.2.1 (by omega)
      have hm : 1 ≤ (1 + o) * entries u.xs ∧ (1 + o) * entries u.xs ≤ 72 := by
        have g1 : (1 + o) * entries u.xs ≤ 4 * 18 := Int.mul_le_mul (by omega) huf (by omega) (by omega)
        have g2 : 1 * 1 ≤ (1 + o) * entries u.xs := Int.mul_le_mul (by omega) hup (by omega) (by omega)
        omega
      (repeat' ((conv => whnf) <;> first | (show drawK _ 13 _ _ _ _ _ _; refine draw_tree tabOk mixed [] _ dtGY0 (by kernel_rfl) (by kernel_rfl) (by kernel_rfl) (List.Sublist.refl _) ?_) | (show drawK _ 14 _ _ _ _ _ _; refine draw_tree tabOk mixed [25] _ dtGY1 (by kernel_rfl) (by kernel_rfl) (by kernel_rfl) (List.Sublist.refl _) ?_) | (show Wp _ _ _ _ _ _ _; refine Wp.go tabOk rfl ?_) | (show @cmpK _ _ _; (first | refine cmpY ?_ | refine cmpN ?_ | (refine cmp_both ?_ ?_ <;> intro _))) | (show wrapK _ _ _; refine wrapA ?_) | (show leK _ _ _; refine leA ?_) | (show roomK _ _ _; refine roomA ?_) | (show ltK _ _ _; refine ltA ?_) | (show _ ∧ _; refine ⟨?_, ?_⟩) | (show keepK _ _ _ _ _; refine keepA ?_) | refine own_keep ?_ | refine ap_old ?_))
      refine call_t (f := 71) [.int .i64 ((1 + o) * entries u.xs)] t k3 IntsV.val intsA _ (by first | exact List.mem_cons_self | exact List.mem_cons_of_mem _ List.mem_cons_self | (repeat (first | exact List.mem_cons_self | apply List.mem_cons_of_mem))) Try.call71 hs hby hk3 (fun R w' h => rest_holds hd (by first | exact h | exact h.1 | exact h.1.1 | exact h.1.1.1)) (fun R w' b' ht _ _ => row_any w' b' t k3 ht ((1 + o) * entries u.xs) (by omega) (by omega)) (fun d k4 hdd hk4 => ?_)
      (repeat' ((conv => whnf) <;> first | (show drawK _ 13 _ _ _ _ _ _; refine draw_tree tabOk mixed [] _ dtGY0 (by kernel_rfl) (by kernel_rfl) (by kernel_rfl) (List.Sublist.refl _) ?_) | (show drawK _ 14 _ _ _ _ _ _; refine draw_tree tabOk mixed [25] _ dtGY1 (by kernel_rfl) (by kernel_rfl) (by kernel_rfl) (List.Sublist.refl _) ?_) | (show Wp _ _ _ _ _ _ _; refine Wp.go tabOk rfl ?_) | (show @cmpK _ _ _; (first | refine cmpY ?_ | refine cmpN ?_ | (refine cmp_both ?_ ?_ <;> intro _))) | (show wrapK _ _ _; refine wrapA ?_) | (show leK _ _ _; refine leA ?_) | (show roomK _ _ _; refine roomA ?_) | (show ltK _ _ _; refine ltA ?_) | (show _ ∧ _; refine ⟨?_, ?_⟩) | (show keepK _ _ _ _ _; refine keepA ?_) | refine own_keep ?_ | refine ap_old ?_))
      refine call_t (f := 71) [.int .i64 (1 + o)] t k4 IntsV.val intsA _ (by first | exact List.mem_cons_self | exact List.mem_cons_of_mem _ List.mem_cons_self | (repeat (first | exact List.mem_cons_self | apply List.mem_cons_of_mem))) Try.call71 hs hby hk4 (fun R w' h => rest_holds hd (by first | exact h | exact h.1 | exact h.1.1 | exact h.1.1.1)) (fun R w' b' ht _ _ => row_any w' b' t k4 ht (1 + o) (by omega) (by omega)) (fun e k5 hee hk5 => ?_)
      (repeat' ((conv => whnf) <;> first | (show drawK _ 13 _ _ _ _ _ _; refine draw_tree tabOk mixed [] _ dtGY0 (by kernel_rfl) (by kernel_rfl) (by kernel_rfl) (List.Sublist.refl _) ?_) | (show drawK _ 14 _ _ _ _ _ _; refine draw_tree tabOk mixed [25] _ dtGY1 (by kernel_rfl) (by kernel_rfl) (by kernel_rfl) (List.Sublist.refl _) ?_) | (show Wp _ _ _ _ _ _ _; refine Wp.go tabOk rfl ?_) | (show @cmpK _ _ _; (first | refine cmpY ?_ | refine cmpN ?_ | (refine cmp_both ?_ ?_ <;> intro _))) | (show wrapK _ _ _; refine wrapA ?_) | (show leK _ _ _; refine leA ?_) | (show roomK _ _ _; refine roomA ?_) | (show ltK _ _ _; refine ltA ?_) | (show _ ∧ _; refine ⟨?_, ?_⟩) | (show keepK _ _ _ _ _; refine keepA ?_) | refine own_keep ?_ | refine ap_old ?_))
      conv => whnf
      have hel : (e.xs.length : Int) = 1 + o := by rw [hee.1]; omega
      exact ends_node (by first | exact List.mem_cons_self | exact List.mem_cons_of_mem _ List.mem_cons_self | (repeat (first | exact List.mem_cons_self | apply List.mem_cons_of_mem))) hk5 (fun _ _ h => h.1.1) (fun ρ w' hw => ⟨(⟨3, ((sv.l.length : Int) - 1 - r), 0, nilI, 0, 0, 0, d, e⟩, false), rfl, ⟨by rw [hia]; exact good_dense hi2 hgi huo hdd.2.2 hee.2.2 ⟨by omega, by omega⟩ (by rw [hel, hdd.1]; omega) hdd.2.1 hee.2.1 h24, fun h => (by cases h)⟩, ⟨fun _ => nilI_holds _ _, past_new hw (fun _ _ h => h.1.2), past_new hw (fun _ _ h => h.2)⟩⟩)
    · (repeat' ((conv => whnf) <;> first | (show drawK _ 13 _ _ _ _ _ _; refine draw_tree tabOk mixed [] _ dtGY0 (by kernel_rfl) (by kernel_rfl) (by kernel_rfl) (List.Sublist.refl _) ?_) | (show drawK _ 14 _ _ _ _ _ _; refine draw_tree tabOk mixed [25] _ dtGY1 (by kernel_rfl) (by kernel_rfl) (by kernel_rfl) (List.Sublist.refl _) ?_) | (show Wp _ _ _ _ _ _ _; refine Wp.go tabOk rfl ?_) | (show @cmpK _ _ _; (first | refine cmpY ?_ | refine cmpN ?_ | (refine cmp_both ?_ ?_ <;> intro _))) | (show wrapK _ _ _; refine wrapA ?_) | (show leK _ _ _; refine leA ?_) | (show roomK _ _ _; refine roomA ?_) | (show ltK _ _ _; refine ltA ?_) | (show _ ∧ _; refine ⟨?_, ?_⟩) | (show keepK _ _ _ _ _; refine keepA ?_) | refine own_keep ?_ | refine ap_old ?_))
      refine call_num (f := 41) [.int .i64 4] t k2 _ (by first | exact List.mem_cons_self | exact List.mem_cons_of_mem _ List.mem_cons_self | (repeat (first | exact List.mem_cons_self | apply List.mem_cons_of_mem))) Try.call41 hs hby hk2 (fun R w' h => rest_holds hd (by first | exact h | exact h.1 | exact h.1.1 | exact h.1.1.1)) (fun w' b' ht => next_any w' b' t k2 ht 4 ⟨by omega, by omega⟩) (fun o k3 ho hk3 => ?_)
      have ho0 := ho.1
      have ho1 := ho.2.1 (by omega)
      have hm : 1 ≤ (1 + o) * entries u.xs ∧ (1 + o) * entries u.xs ≤ 72 := by
        have g1 : (1 + o) * entries u.xs ≤ 4 * 18 := Int.mul_le_mul (by omega) huf (by omega) (by omega)
        have g2 : 1 * 1 ≤ (1 + o) * entries u.xs := Int.mul_le_mul (by omega) hup (by omega) (by omega)
        omega
      (repeat' ((conv => whnf) <;> first | (show drawK _ 13 _ _ _ _ _ _; refine draw_tree tabOk mixed [] _ dtGY0 (by kernel_rfl) (by kernel_rfl) (by kernel_rfl) (List.Sublist.refl _) ?_) | (show drawK _ 14 _ _ _ _ _ _; refine draw_tree tabOk mixed [25] _ dtGY1 (by kernel_rfl) (by kernel_rfl) (by kernel_rfl) (List.Sublist.refl _) ?_) | (show Wp _ _ _ _ _ _ _; refine Wp.go tabOk rfl ?_) | (show @cmpK _ _ _; (first | refine cmpY ?_ | refine cmpN ?_ | (refine cmp_both ?_ ?_ <;> intro _))) | (show wrapK _ _ _; refine wrapA ?_) | (show leK _ _ _; refine leA ?_) | (show roomK _ _ _; refine roomA ?_) | (show ltK _ _ _; refine ltA ?_) | (show _ ∧ _; refine ⟨?_, ?_⟩) | (show keepK _ _ _ _ _; refine keepA ?_) | refine own_keep ?_ | refine ap_old ?_))
      refine call_t (f := 71) [.int .i64 ((1 + o) * entries u.xs)] t k3 IntsV.val intsA _ (by first | exact List.mem_cons_self | exact List.mem_cons_of_mem _ List.mem_cons_self | (repeat (first | exact List.mem_cons_self | apply List.mem_cons_of_mem))) Try.call71 hs hby hk3 (fun R w' h => rest_holds hd (by first | exact h | exact h.1 | exact h.1.1 | exact h.1.1.1)) (fun R w' b' ht _ _ => row_any w' b' t k3 ht ((1 + o) * entries u.xs) (by omega) (by omega)) (fun d k4 hdd hk4 => ?_)
      (repeat' ((conv => whnf) <;> first | (show drawK _ 13 _ _ _ _ _ _; refine draw_tree tabOk mixed [] _ dtGY0 (by kernel_rfl) (by kernel_rfl) (by kernel_rfl) (List.Sublist.refl _) ?_) | (show drawK _ 14 _ _ _ _ _ _; refine draw_tree tabOk mixed [25] _ dtGY1 (by kernel_rfl) (by kernel_rfl) (by kernel_rfl) (List.Sublist.refl _) ?_) | (show Wp _ _ _ _ _ _ _; refine Wp.go tabOk rfl ?_) | (show @cmpK _ _ _; (first | refine cmpY ?_ | refine cmpN ?_ | (refine cmp_both ?_ ?_ <;> intro _))) | (show wrapK _ _ _; refine wrapA ?_) | (show leK _ _ _; refine leA ?_) | (show roomK _ _ _; refine roomA ?_) | (show ltK _ _ _; refine ltA ?_) | (show _ ∧ _; refine ⟨?_, ?_⟩) | (show keepK _ _ _ _ _; refine keepA ?_) | refine own_keep ?_ | refine ap_old ?_))
      refine call_t (f := 71) [.int .i64 (1 + o)] t k4 IntsV.val intsA _ (by first | exact List.mem_cons_self | exact List.mem_cons_of_mem _ List.mem_cons_self | (repeat (first | exact List.mem_cons_self | apply List.mem_cons_of_mem))) Try.call71 hs hby hk4 (fun R w' h => rest_holds hd (by first | exact h | exact h.1 | exact h.1.1 | exact h.1.1.1)) (fun R w' b' ht _ _ => row_any w' b' t k4 ht (1 + o) (by omega) (by omega)) (fun e k5 hee hk5 => ?_)
      (repeat' ((conv => whnf) <;> first | (show drawK _ 13 _ _ _ _ _ _; refine draw_tree tabOk mixed [] _ dtGY0 (by kernel_rfl) (by kernel_rfl) (by kernel_rfl) (List.Sublist.refl _) ?_) | (show drawK _ 14 _ _ _ _ _ _; refine draw_tree tabOk mixed [25] _ dtGY1 (by kernel_rfl) (by kernel_rfl) (by kernel_rfl) (List.Sublist.refl _) ?_) | (show Wp _ _ _ _ _ _ _; refine Wp.go tabOk rfl ?_) | (show @cmpK _ _ _; (first | refine cmpY ?_ | refine cmpN ?_ | (refine cmp_both ?_ ?_ <;> intro _))) | (show wrapK _ _ _; refine wrapA ?_) | (show leK _ _ _; refine leA ?_) | (show roomK _ _ _; refine roomA ?_) | (show ltK _ _ _; refine ltA ?_) | (show _ ∧ _; refine ⟨?_, ?_⟩) | (show keepK _ _ _ _ _; refine keepA ?_) | refine own_keep ?_ | refine ap_old ?_))
      conv => whnf
      have hel : (e.xs.length : Int) = 1 + o := by rw [hee.1]; omega
      exact ends_node (by first | exact List.mem_cons_self | exact List.mem_cons_of_mem _ List.mem_cons_self | (repeat (first | exact List.mem_cons_self | apply List.mem_cons_of_mem))) hk5 (fun _ _ h => h.1.1) (fun ρ w' hw => ⟨(⟨3, ((sv.l.length : Int) - 1 - r), 0, nilI, 0, 0, 0, d, e⟩, false), rfl, ⟨by rw [hia]; exact good_dense hi2 hgi huo hdd.2.2 hee.2.2 ⟨by omega, by omega⟩ (by rw [hel, hdd.1]; omega) hdd.2.1 hee.2.1 h24, fun h => (by cases h)⟩, ⟨fun _ => nilI_holds _ _, past_new hw (fun _ _ h => h.1.2), past_new hw (fun _ _ h => h.2)⟩⟩)
    · by_cases h3 : u.xs.length = 3
      · obtain ⟨_, p0, p00, p1, p2, _, p3, p4⟩ := dims3 huo h3
        obtain ⟨ua, hua⟩ : ∃ a, u.base = some a := base_some (j := 0) (rowsA_in (hsv.2 u hum)) (by rw [ints_length]; omega)
        have hur : ∀ (R : Nat → Prop) w', (restA w b).holds R w' → RowsI w' (some ua) 1 (ints u.xs) := fun R w' h => by rw [← hua]; exact rowsA_in ((rest_holds hsv h).2 u hum)
        (repeat' ((conv => whnf) <;> first | (show drawK _ 13 _ _ _ _ _ _; refine draw_tree tabOk mixed [] [] dtGY0 (by kernel_rfl) (by kernel_rfl) (by kernel_rfl) (List.nil_sublist _) ?_) | (show drawK _ 14 _ _ _ _ _ _; refine draw_tree tabOk mixed [25] _ dtGY1 (by kernel_rfl) (by kernel_rfl) (by kernel_rfl) (List.Sublist.cons_cons _ (List.Sublist.cons_cons _ (List.Sublist.cons _ (List.Sublist.refl _)))) ?_) | (show keepK _ _ _ _ _; refine keepB ?_) | (show idxK _ _ _ _ _; refine idx_of _ 0 hua rfl (by omega) ?_) | (show roK _ _ _; refine ro_int hur (j := 0) (by omega) ?_) | (show idxK _ _ _ _ _; refine idx_of _ 1 hua rfl (by omega) ?_) | (show roK _ _ _; refine ro_int hur (j := 1) (by omega) ?_) | (show idxK _ _ _ _ _; refine idx_of _ 2 hua rfl (by omega) ?_) | (show roK _ _ _; refine ro_int hur (j := 2) (by omega) ?_) | (show idxRowK _ _ _ _ _ _; (first | refine idxRow_of 0 rfl (show 0 < 4 by decide) (show 4 ≤ 4 by decide) ?_ | refine idxRow_of 1 rfl (show 1 < 4 by decide) (show 4 ≤ 4 by decide) ?_ | refine idxRow_of 2 rfl (show 2 < 4 by decide) (show 4 ≤ 4 by decide) ?_ | refine idxRow_of 3 rfl (show 3 < 4 by decide) (show 4 ≤ 4 by decide) ?_)) | (show rowK _ _ _ _; refine row_of _ _ rfl rfl ?_) | (show Wp _ _ _ _ _ _ _; refine Wp.go tabOk rfl ?_) | (show @cmpK _ _ _; (first | refine cmpY ?_ | refine cmpN ?_ | (refine cmp_both ?_ ?_ <;> intro _))) | (show wrapK _ _ _; refine wrapA ?_) | (show leK _ _ _; refine leA ?_) | (show roomK _ _ _; refine roomA ?_) | (show ltK _ _ _; refine ltA ?_) | (show _ ∧ _; refine ⟨?_, ?_⟩) | (show keepK _ _ _ _ _; refine keepA ?_) | refine own_keep ?_ | refine ap_old ?_))
        all_goals
          refine call_num (f := 41) [.int .i64 (2)] t k2 _ (by first | exact List.mem_cons_self | exact List.mem_cons_of_mem _ List.mem_cons_self | (repeat (first | exact List.mem_cons_self | apply List.mem_cons_of_mem))) Try.call41 hs hby hk2 (fun R w' h => rest_holds hd (by first | exact h | exact h.1 | exact h.1.1 | exact h.1.1.1)) (fun w' b' ht => next_any w' b' t k2 ht (2) ⟨by omega, by omega⟩) (fun c0 k3 hc0 hk3 => ?_)
          have hc00 := hc0.1
          have hc01 := hc0.2.1 (by omega)
          (repeat' ((conv => whnf) <;> first | (show drawK _ 13 _ _ _ _ _ _; refine draw_tree tabOk mixed [] [] dtGY0 (by kernel_rfl) (by kernel_rfl) (by kernel_rfl) (List.nil_sublist _) ?_) | (show drawK _ 14 _ _ _ _ _ _; refine draw_tree tabOk mixed [25] _ dtGY1 (by kernel_rfl) (by kernel_rfl) (by kernel_rfl) (List.Sublist.cons_cons _ (List.Sublist.cons_cons _ (List.Sublist.cons _ (List.Sublist.refl _)))) ?_) | (show keepK _ _ _ _ _; refine keepB ?_) | (show idxK _ _ _ _ _; refine idx_of _ 0 hua rfl (by omega) ?_) | (show roK _ _ _; refine ro_int hur (j := 0) (by omega) ?_) | (show idxK _ _ _ _ _; refine idx_of _ 1 hua rfl (by omega) ?_) | (show roK _ _ _; refine ro_int hur (j := 1) (by omega) ?_) | (show idxK _ _ _ _ _; refine idx_of _ 2 hua rfl (by omega) ?_) | (show roK _ _ _; refine ro_int hur (j := 2) (by omega) ?_) | (show idxRowK _ _ _ _ _ _; (first | refine idxRow_of 0 rfl (show 0 < 4 by decide) (show 4 ≤ 4 by decide) ?_ | refine idxRow_of 1 rfl (show 1 < 4 by decide) (show 4 ≤ 4 by decide) ?_ | refine idxRow_of 2 rfl (show 2 < 4 by decide) (show 4 ≤ 4 by decide) ?_ | refine idxRow_of 3 rfl (show 3 < 4 by decide) (show 4 ≤ 4 by decide) ?_)) | (show rowK _ _ _ _; refine row_of _ _ rfl rfl ?_) | (show Wp _ _ _ _ _ _ _; refine Wp.go tabOk rfl ?_) | (show @cmpK _ _ _; (first | refine cmpY ?_ | refine cmpN ?_ | (refine cmp_both ?_ ?_ <;> intro _))) | (show wrapK _ _ _; refine wrapA ?_) | (show leK _ _ _; refine leA ?_) | (show roomK _ _ _; refine roomA ?_) | (show ltK _ _ _; refine ltA ?_) | (show _ ∧ _; refine ⟨?_, ?_⟩) | (show keepK _ _ _ _ _; refine keepA ?_) | refine own_keep ?_ | refine ap_old ?_))
          first
            | refine call_num (f := 41) [.int .i64 (2)] t k3 _ (by first | exact List.mem_cons_self | exact List.mem_cons_of_mem _ List.mem_cons_self | (repeat (first | exact List.mem_cons_self | apply List.mem_cons_of_mem))) Try.call41 hs hby hk3 (fun R w' h => rest_holds hd (by first | exact h | exact h.1 | exact h.1.1 | exact h.1.1.1)) (fun w' b' ht => next_any w' b' t k3 ht (2) ⟨by omega, by omega⟩) (fun c1 k4 hc1 hk4 => ?_)
            | refine call_num (f := 41) [.int .i64 (u.xs.getD 1 0)] t k3 _ (by first | exact List.mem_cons_self | exact List.mem_cons_of_mem _ List.mem_cons_self | (repeat (first | exact List.mem_cons_self | apply List.mem_cons_of_mem))) Try.call41 hs hby hk3 (fun R w' h => rest_holds hd (by first | exact h | exact h.1 | exact h.1.1 | exact h.1.1.1)) (fun w' b' ht => next_any w' b' t k3 ht (u.xs.getD 1 0) ⟨by omega, by omega⟩) (fun c1 k4 hc1 hk4 => ?_)
          have hc11 : 0 ≤ c1 ∧ c1 < 2 ∧ c1 < u.xs.getD 1 0 := by have := hc1.1; have := hc1.2.1; have := hc1.2.2; omega
          (repeat' ((conv => whnf) <;> first | (show drawK _ 13 _ _ _ _ _ _; refine draw_tree tabOk mixed [] [] dtGY0 (by kernel_rfl) (by kernel_rfl) (by kernel_rfl) (List.nil_sublist _) ?_) | (show drawK _ 14 _ _ _ _ _ _; refine draw_tree tabOk mixed [25] _ dtGY1 (by kernel_rfl) (by kernel_rfl) (by kernel_rfl) (List.Sublist.cons_cons _ (List.Sublist.cons_cons _ (List.Sublist.cons _ (List.Sublist.refl _)))) ?_) | (show keepK _ _ _ _ _; refine keepB ?_) | (show idxK _ _ _ _ _; refine idx_of _ 0 hua rfl (by omega) ?_) | (show roK _ _ _; refine ro_int hur (j := 0) (by omega) ?_) | (show idxK _ _ _ _ _; refine idx_of _ 1 hua rfl (by omega) ?_) | (show roK _ _ _; refine ro_int hur (j := 1) (by omega) ?_) | (show idxK _ _ _ _ _; refine idx_of _ 2 hua rfl (by omega) ?_) | (show roK _ _ _; refine ro_int hur (j := 2) (by omega) ?_) | (show idxRowK _ _ _ _ _ _; (first | refine idxRow_of 0 rfl (show 0 < 4 by decide) (show 4 ≤ 4 by decide) ?_ | refine idxRow_of 1 rfl (show 1 < 4 by decide) (show 4 ≤ 4 by decide) ?_ | refine idxRow_of 2 rfl (show 2 < 4 by decide) (show 4 ≤ 4 by decide) ?_ | refine idxRow_of 3 rfl (show 3 < 4 by decide) (show 4 ≤ 4 by decide) ?_)) | (show rowK _ _ _ _; refine row_of _ _ rfl rfl ?_) | (show Wp _ _ _ _ _ _ _; refine Wp.go tabOk rfl ?_) | (show @cmpK _ _ _; (first | refine cmpY ?_ | refine cmpN ?_ | (refine cmp_both ?_ ?_ <;> intro _))) | (show wrapK _ _ _; refine wrapA ?_) | (show leK _ _ _; refine leA ?_) | (show roomK _ _ _; refine roomA ?_) | (show ltK _ _ _; refine ltA ?_) | (show _ ∧ _; refine ⟨?_, ?_⟩) | (show keepK _ _ _ _ _; refine keepA ?_) | refine own_keep ?_ | refine ap_old ?_))
          first
            | refine call_num (f := 41) [.int .i64 (2)] t k4 _ (by first | exact List.mem_cons_self | exact List.mem_cons_of_mem _ List.mem_cons_self | (repeat (first | exact List.mem_cons_self | apply List.mem_cons_of_mem))) Try.call41 hs hby hk4 (fun R w' h => rest_holds hd (by first | exact h | exact h.1 | exact h.1.1 | exact h.1.1.1)) (fun w' b' ht => next_any w' b' t k4 ht (2) ⟨by omega, by omega⟩) (fun c2 k5 hc2 hk5 => ?_)
            | refine call_num (f := 41) [.int .i64 (u.xs.getD 2 0)] t k4 _ (by first | exact List.mem_cons_self | exact List.mem_cons_of_mem _ List.mem_cons_self | (repeat (first | exact List.mem_cons_self | apply List.mem_cons_of_mem))) Try.call41 hs hby hk4 (fun R w' h => rest_holds hd (by first | exact h | exact h.1 | exact h.1.1 | exact h.1.1.1)) (fun w' b' ht => next_any w' b' t k4 ht (u.xs.getD 2 0) ⟨by omega, by omega⟩) (fun c2 k5 hc2 hk5 => ?_)
          have hc22 : 0 ≤ c2 ∧ c2 < 2 ∧ c2 < u.xs.getD 2 0 := by have := hc2.1; have := hc2.2.1; have := hc2.2.2; omega
          have m1 : (1 + c0) * u.xs.getD 0 0 ≤ 2 * 2 := Int.mul_le_mul (by omega) (by omega) (by omega) (by omega)
          have n1 : 1 * 1 ≤ (1 + c0) * u.xs.getD 0 0 := Int.mul_le_mul (by omega) (by omega) (by omega) (by omega)
          have m2 : (1 + c0) * u.xs.getD 0 0 * (1 + c1) ≤ 4 * 2 := Int.mul_le_mul m1 (by omega) (by omega) (by omega)
          have n2 : 1 * 1 ≤ (1 + c0) * u.xs.getD 0 0 * (1 + c1) := Int.mul_le_mul n1 (by omega) (by omega) (by omega)
          have m3 : (1 + c0) * u.xs.getD 0 0 * (1 + c1) * (1 + c2) ≤ 8 * 2 := Int.mul_le_mul m2 (by omega) (by omega) (by omega)
          have n3 : 1 * 1 ≤ (1 + c0) * u.xs.getD 0 0 * (1 + c1) * (1 + c2) := Int.mul_le_mul n2 (by omega) (by omega) (by omega)
          (repeat' ((conv => whnf) <;> first | (show drawK _ 13 _ _ _ _ _ _; refine draw_tree tabOk mixed [] [] dtGY0 (by kernel_rfl) (by kernel_rfl) (by kernel_rfl) (List.nil_sublist _) ?_) | (show drawK _ 14 _ _ _ _ _ _; refine draw_tree tabOk mixed [25] _ dtGY1 (by kernel_rfl) (by kernel_rfl) (by kernel_rfl) (List.Sublist.cons_cons _ (List.Sublist.cons_cons _ (List.Sublist.cons _ (List.Sublist.refl _)))) ?_) | (show keepK _ _ _ _ _; refine keepB ?_) | (show idxK _ _ _ _ _; refine idx_of _ 0 hua rfl (by omega) ?_) | (show roK _ _ _; refine ro_int hur (j := 0) (by omega) ?_) | (show idxK _ _ _ _ _; refine idx_of _ 1 hua rfl (by omega) ?_) | (show roK _ _ _; refine ro_int hur (j := 1) (by omega) ?_) | (show idxK _ _ _ _ _; refine idx_of _ 2 hua rfl (by omega) ?_) | (show roK _ _ _; refine ro_int hur (j := 2) (by omega) ?_) | (show idxRowK _ _ _ _ _ _; (first | refine idxRow_of 0 rfl (show 0 < 4 by decide) (show 4 ≤ 4 by decide) ?_ | refine idxRow_of 1 rfl (show 1 < 4 by decide) (show 4 ≤ 4 by decide) ?_ | refine idxRow_of 2 rfl (show 2 < 4 by decide) (show 4 ≤ 4 by decide) ?_ | refine idxRow_of 3 rfl (show 3 < 4 by decide) (show 4 ≤ 4 by decide) ?_)) | (show rowK _ _ _ _; refine row_of _ _ rfl rfl ?_) | (show Wp _ _ _ _ _ _ _; refine Wp.go tabOk rfl ?_) | (show @cmpK _ _ _; (first | refine cmpY ?_ | refine cmpN ?_ | (refine cmp_both ?_ ?_ <;> intro _))) | (show wrapK _ _ _; refine wrapA ?_) | (show leK _ _ _; refine leA ?_) | (show roomK _ _ _; refine roomA ?_) | (show ltK _ _ _; refine ltA ?_) | (show _ ∧ _; refine ⟨?_, ?_⟩) | (show keepK _ _ _ _ _; refine keepA ?_) | refine own_keep ?_ | refine ap_old ?_))
          refine call_t (f := 71) [.int .i64 ((1 + c0) * u.xs.getD 0 0 * (1 + c1) * (1 + c2))] t k5 IntsV.val intsA _ (by first | exact List.mem_cons_self | exact List.mem_cons_of_mem _ List.mem_cons_self | (repeat (first | exact List.mem_cons_self | apply List.mem_cons_of_mem))) Try.call71 hs hby hk5 (fun R w' h => rest_holds hd (by first | exact h | exact h.1 | exact h.1.1 | exact h.1.1.1)) (fun R w' b' ht _ _ => row_any w' b' t k5 ht ((1 + c0) * u.xs.getD 0 0 * (1 + c1) * (1 + c2)) (by omega) (by omega)) (fun d k6 hdd hk6 => ?_)
          (repeat' ((conv => whnf) <;> first | (show drawK _ 13 _ _ _ _ _ _; refine draw_tree tabOk mixed [] [] dtGY0 (by kernel_rfl) (by kernel_rfl) (by kernel_rfl) (List.nil_sublist _) ?_) | (show drawK _ 14 _ _ _ _ _ _; refine draw_tree tabOk mixed [25] _ dtGY1 (by kernel_rfl) (by kernel_rfl) (by kernel_rfl) (List.Sublist.cons_cons _ (List.Sublist.cons_cons _ (List.Sublist.cons _ (List.Sublist.refl _)))) ?_) | (show keepK _ _ _ _ _; refine keepB ?_) | (show idxK _ _ _ _ _; refine idx_of _ 0 hua rfl (by omega) ?_) | (show roK _ _ _; refine ro_int hur (j := 0) (by omega) ?_) | (show idxK _ _ _ _ _; refine idx_of _ 1 hua rfl (by omega) ?_) | (show roK _ _ _; refine ro_int hur (j := 1) (by omega) ?_) | (show idxK _ _ _ _ _; refine idx_of _ 2 hua rfl (by omega) ?_) | (show roK _ _ _; refine ro_int hur (j := 2) (by omega) ?_) | (show idxRowK _ _ _ _ _ _; (first | refine idxRow_of 0 rfl (show 0 < 4 by decide) (show 4 ≤ 4 by decide) ?_ | refine idxRow_of 1 rfl (show 1 < 4 by decide) (show 4 ≤ 4 by decide) ?_ | refine idxRow_of 2 rfl (show 2 < 4 by decide) (show 4 ≤ 4 by decide) ?_ | refine idxRow_of 3 rfl (show 3 < 4 by decide) (show 4 ≤ 4 by decide) ?_)) | (show rowK _ _ _ _; refine row_of _ _ rfl rfl ?_) | (show Wp _ _ _ _ _ _ _; refine Wp.go tabOk rfl ?_) | (show @cmpK _ _ _; (first | refine cmpY ?_ | refine cmpN ?_ | (refine cmp_both ?_ ?_ <;> intro _))) | (show wrapK _ _ _; refine wrapA ?_) | (show leK _ _ _; refine leA ?_) | (show roomK _ _ _; refine roomA ?_) | (show ltK _ _ _; refine ltA ?_) | (show _ ∧ _; refine ⟨?_, ?_⟩) | (show keepK _ _ _ _ _; refine keepA ?_) | refine own_keep ?_ | refine ap_old ?_))
          refine call_t (f := 71) [.int .i64 (1 + c0)] t k6 IntsV.val intsA _ (by first | exact List.mem_cons_self | exact List.mem_cons_of_mem _ List.mem_cons_self | (repeat (first | exact List.mem_cons_self | apply List.mem_cons_of_mem))) Try.call71 hs hby hk6 (fun R w' h => rest_holds hd (by first | exact h | exact h.1 | exact h.1.1 | exact h.1.1.1)) (fun R w' b' ht _ _ => row_any w' b' t k6 ht (1 + c0) (by omega) (by omega)) (fun e k7 hee hk7 => ?_)
          (repeat' ((conv => whnf) <;> first | (show drawK _ 13 _ _ _ _ _ _; refine draw_tree tabOk mixed [] [] dtGY0 (by kernel_rfl) (by kernel_rfl) (by kernel_rfl) (List.nil_sublist _) ?_) | (show drawK _ 14 _ _ _ _ _ _; refine draw_tree tabOk mixed [25] _ dtGY1 (by kernel_rfl) (by kernel_rfl) (by kernel_rfl) (List.Sublist.cons_cons _ (List.Sublist.cons_cons _ (List.Sublist.cons _ (List.Sublist.refl _)))) ?_) | (show keepK _ _ _ _ _; refine keepB ?_) | (show idxK _ _ _ _ _; refine idx_of _ 0 hua rfl (by omega) ?_) | (show roK _ _ _; refine ro_int hur (j := 0) (by omega) ?_) | (show idxK _ _ _ _ _; refine idx_of _ 1 hua rfl (by omega) ?_) | (show roK _ _ _; refine ro_int hur (j := 1) (by omega) ?_) | (show idxK _ _ _ _ _; refine idx_of _ 2 hua rfl (by omega) ?_) | (show roK _ _ _; refine ro_int hur (j := 2) (by omega) ?_) | (show idxRowK _ _ _ _ _ _; (first | refine idxRow_of 0 rfl (show 0 < 4 by decide) (show 4 ≤ 4 by decide) ?_ | refine idxRow_of 1 rfl (show 1 < 4 by decide) (show 4 ≤ 4 by decide) ?_ | refine idxRow_of 2 rfl (show 2 < 4 by decide) (show 4 ≤ 4 by decide) ?_ | refine idxRow_of 3 rfl (show 3 < 4 by decide) (show 4 ≤ 4 by decide) ?_)) | (show rowK _ _ _ _; refine row_of _ _ rfl rfl ?_) | (show Wp _ _ _ _ _ _ _; refine Wp.go tabOk rfl ?_) | (show @cmpK _ _ _; (first | refine cmpY ?_ | refine cmpN ?_ | (refine cmp_both ?_ ?_ <;> intro _))) | (show wrapK _ _ _; refine wrapA ?_) | (show leK _ _ _; refine leA ?_) | (show roomK _ _ _; refine roomA ?_) | (show ltK _ _ _; refine ltA ?_) | (show _ ∧ _; refine ⟨?_, ?_⟩) | (show keepK _ _ _ _ _; refine keepA ?_) | refine own_keep ?_ | refine ap_old ?_))
          conv => whnf
          exact ends_node (by first | exact List.mem_cons_self | exact List.mem_cons_of_mem _ List.mem_cons_self | (repeat (first | exact List.mem_cons_self | apply List.mem_cons_of_mem))) hk7 (fun _ _ h => h.1.1) (fun ρ w' hw => by
            obtain ⟨v, e1, e2, e3, e4⟩ := own_new (xs := [1 + c0, u.xs.getD 0 0, 1 + c1, 1 + c2]) hw (fun _ _ h => h.1.1) (by first | exact List.mem_cons_self | exact List.mem_cons_of_mem _ List.mem_cons_self | (repeat (first | exact List.mem_cons_self | apply List.mem_cons_of_mem))) (by first | exact List.mem_cons_self | exact List.mem_cons_of_mem _ List.mem_cons_self | (repeat (first | exact List.mem_cons_self | apply List.mem_cons_of_mem))) (by decide) rfl (by intro x hx; simp only [List.mem_cons, List.not_mem_nil, or_false] at hx; rcases hx with rfl | rfl | rfl | rfl <;> exact ⟨by omega, by omega⟩) (by simp)
            exact ⟨(⟨4, ((sv.l.length : Int) - 1 - r), 0, v, 0, 0, 0, d, e⟩, false), agg_shape e1, ⟨by rw [hia]; exact good_conv (k0 := 1 + c0) (k2 := 1 + c1) (k3 := 1 + c2) hi2 hgi huo h3 ⟨by omega, by omega⟩ ⟨by omega, by omega, by omega⟩ ⟨by omega, by omega, by omega⟩ e3 e2 hdd.2.2 hee.2.2 (by rw [hdd.1]; omega) (by rw [hee.1]; omega) hdd.2.1 hee.2.1 h24, fun h => (by cases h)⟩, ⟨fun _ => e4, past_new hw (fun _ _ h => h.1.2), past_new hw (fun _ _ h => h.2)⟩⟩)
      · (repeat' ((conv => whnf) <;> first | (show drawK _ 13 _ _ _ _ _ _; refine draw_tree tabOk mixed [] _ dtGY0 (by kernel_rfl) (by kernel_rfl) (by kernel_rfl) (List.Sublist.refl _) ?_) | (show drawK _ 14 _ _ _ _ _ _; refine draw_tree tabOk mixed [25] _ dtGY1 (by kernel_rfl) (by kernel_rfl) (by kernel_rfl) (List.Sublist.refl _) ?_) | (show Wp _ _ _ _ _ _ _; refine Wp.go tabOk rfl ?_) | (show @cmpK _ _ _; (first | refine cmpY ?_ | refine cmpN ?_ | (refine cmp_both ?_ ?_ <;> intro _))) | (show wrapK _ _ _; refine wrapA ?_) | (show leK _ _ _; refine leA ?_) | (show roomK _ _ _; refine roomA ?_) | (show ltK _ _ _; refine ltA ?_) | (show _ ∧ _; refine ⟨?_, ?_⟩) | (show keepK _ _ _ _ _; refine keepA ?_) | refine own_keep ?_ | refine ap_old ?_))
        refine call_num (f := 70) [] t k2 _ (by first | exact List.mem_cons_self | exact List.mem_cons_of_mem _ List.mem_cons_self | (repeat (first | exact List.mem_cons_self | apply List.mem_cons_of_mem))) Try.call70 hs hby hk2 (fun R w' h => rest_holds hd (by first | exact h | exact h.1 | exact h.1.1 | exact h.1.1.1)) (fun w' b' ht => small_any w' b' t k2 ht) (fun y ky hy hky => ?_)
        (repeat' ((conv => whnf) <;> first | (show drawK _ 13 _ _ _ _ _ _; refine draw_tree tabOk mixed [] _ dtGY0 (by kernel_rfl) (by kernel_rfl) (by kernel_rfl) (List.Sublist.refl _) ?_) | (show drawK _ 14 _ _ _ _ _ _; refine draw_tree tabOk mixed [25] _ dtGY1 (by kernel_rfl) (by kernel_rfl) (by kernel_rfl) (List.Sublist.refl _) ?_) | (show Wp _ _ _ _ _ _ _; refine Wp.go tabOk rfl ?_) | (show @cmpK _ _ _; (first | refine cmpY ?_ | refine cmpN ?_ | (refine cmp_both ?_ ?_ <;> intro _))) | (show wrapK _ _ _; refine wrapA ?_) | (show leK _ _ _; refine leA ?_) | (show roomK _ _ _; refine roomA ?_) | (show ltK _ _ _; refine ltA ?_) | (show _ ∧ _; refine ⟨?_, ?_⟩) | (show keepK _ _ _ _ _; refine keepA ?_) | refine own_keep ?_ | refine ap_old ?_))
        conv => whnf
        exact ends_node (by first | exact List.mem_cons_self | exact List.mem_cons_of_mem _ List.mem_cons_self | (repeat (first | exact List.mem_cons_self | apply List.mem_cons_of_mem))) hky (fun _ _ h => h) (fun ρ w' hw => by
          obtain ⟨d, e1, e2, e3, e4⟩ := own_new (xs := [y]) hw (fun _ _ h => h) (by first | exact List.mem_cons_self | exact List.mem_cons_of_mem _ List.mem_cons_self | (repeat (first | exact List.mem_cons_self | apply List.mem_cons_of_mem))) (by first | exact List.mem_cons_self | exact List.mem_cons_of_mem _ List.mem_cons_self | (repeat (first | exact List.mem_cons_self | apply List.mem_cons_of_mem))) (by decide) rfl (small_i64 (smallL1 hy)) (by simp)
          exact ⟨(⟨7, ((sv.l.length : Int) - 1 - r), 0, nilI, 0, 0, 0, d, nilI⟩, false), agg_data e1, ⟨by rw [hia]; exact good_scale hi2 hgi huo e3 (by rw [e2]; rfl) (e2 ▸ smallL1 hy) h24, fun h => (by cases h)⟩, ⟨fun _ => nilI_holds _ _, e4, nilI_holds _ _⟩⟩)
    · by_cases h3 : u.xs.length = 3
      · obtain ⟨_, _, _, p1, p2, _, p3, p4⟩ := dims3 huo h3
        obtain ⟨ua, hua⟩ : ∃ a, u.base = some a := base_some (j := 0) (rowsA_in (hsv.2 u hum)) (by rw [ints_length]; omega)
        have hur : ∀ (R : Nat → Prop) w', (restA w b).holds R w' → RowsI w' (some ua) 1 (ints u.xs) := fun R w' h => by rw [← hua]; exact rowsA_in ((rest_holds hsv h).2 u hum)
        by_cases hev : u.xs.getD 1 0 % 2 = 0 ∧ u.xs.getD 2 0 % 2 = 0
        · (repeat' ((conv => whnf) <;> first | (show idxK _ _ _ _ _; refine idx_of _ 0 hua rfl (by omega) ?_) | (show roK _ _ _; refine ro_int hur (j := 0) (by omega) ?_) | (show idxK _ _ _ _ _; refine idx_of _ 1 hua rfl (by omega) ?_) | (show roK _ _ _; refine ro_int hur (j := 1) (by omega) ?_) | (show idxK _ _ _ _ _; refine idx_of _ 2 hua rfl (by omega) ?_) | (show roK _ _ _; refine ro_int hur (j := 2) (by omega) ?_) | (show remK _ _ _; refine rem_pos (by omega) (by omega) ?_) | (show drawK _ 13 _ _ _ _ _ _; refine draw_tree tabOk mixed [] _ dtGY0 (by kernel_rfl) (by kernel_rfl) (by kernel_rfl) (List.Sublist.refl _) ?_) | (show drawK _ 14 _ _ _ _ _ _; refine draw_tree tabOk mixed [25] _ dtGY1 (by kernel_rfl) (by kernel_rfl) (by kernel_rfl) (List.Sublist.refl _) ?_) | (show Wp _ _ _ _ _ _ _; refine Wp.go tabOk rfl ?_) | (show @cmpK _ _ _; (first | refine cmpY ?_ | refine cmpN ?_ | (refine cmp_both ?_ ?_ <;> intro _))) | (show wrapK _ _ _; refine wrapA ?_) | (show leK _ _ _; refine leA ?_) | (show roomK _ _ _; refine roomA ?_) | (show ltK _ _ _; refine ltA ?_) | (show _ ∧ _; refine ⟨?_, ?_⟩) | (show keepK _ _ _ _ _; refine keepA ?_) | refine own_keep ?_ | refine ap_old ?_))
          conv => whnf
          exact ends_node (by first | exact List.mem_cons_self | exact List.mem_cons_of_mem _ List.mem_cons_self | (repeat (first | exact List.mem_cons_self | apply List.mem_cons_of_mem))) hk2 (fun _ _ h => h) (fun ρ w' hw => ⟨(⟨5, ((sv.l.length : Int) - 1 - r), 0, nilI, 0, 0, 2, nilI, nilI⟩, false), rfl, ⟨by rw [hia]; exact good_pool hi2 hgi huo h3 hev.1 hev.2 h24, fun h => (by cases h)⟩, ⟨fun _ => nilI_holds _ _, nilI_holds _ _, nilI_holds _ _⟩⟩)
        · (repeat' ((conv => whnf) <;> first | (show idxK _ _ _ _ _; refine idx_of _ 0 hua rfl (by omega) ?_) | (show roK _ _ _; refine ro_int hur (j := 0) (by omega) ?_) | (show idxK _ _ _ _ _; refine idx_of _ 1 hua rfl (by omega) ?_) | (show roK _ _ _; refine ro_int hur (j := 1) (by omega) ?_) | (show idxK _ _ _ _ _; refine idx_of _ 2 hua rfl (by omega) ?_) | (show roK _ _ _; refine ro_int hur (j := 2) (by omega) ?_) | (show remK _ _ _; refine rem_pos (by omega) (by omega) ?_) | (show drawK _ 13 _ _ _ _ _ _; refine draw_tree tabOk mixed [] _ dtGY0 (by kernel_rfl) (by kernel_rfl) (by kernel_rfl) (List.Sublist.refl _) ?_) | (show drawK _ 14 _ _ _ _ _ _; refine draw_tree tabOk mixed [25] _ dtGY1 (by kernel_rfl) (by kernel_rfl) (by kernel_rfl) (List.Sublist.refl _) ?_) | (show Wp _ _ _ _ _ _ _; refine Wp.go tabOk rfl ?_) | (show @cmpK _ _ _; (first | refine cmpY ?_ | refine cmpN ?_ | (refine cmp_both ?_ ?_ <;> intro _))) | (show wrapK _ _ _; refine wrapA ?_) | (show leK _ _ _; refine leA ?_) | (show roomK _ _ _; refine roomA ?_) | (show ltK _ _ _; refine ltA ?_) | (show _ ∧ _; refine ⟨?_, ?_⟩) | (show keepK _ _ _ _ _; refine keepA ?_) | refine own_keep ?_ | refine ap_old ?_))
          all_goals
            refine call_num (f := 70) [] t k2 _ (by first | exact List.mem_cons_self | exact List.mem_cons_of_mem _ List.mem_cons_self | (repeat (first | exact List.mem_cons_self | apply List.mem_cons_of_mem))) Try.call70 hs hby hk2 (fun R w' h => rest_holds hd (by first | exact h | exact h.1 | exact h.1.1 | exact h.1.1.1)) (fun w' b' ht => small_any w' b' t k2 ht) (fun y ky hy hky => ?_)
            (repeat' ((conv => whnf) <;> first | (show drawK _ 13 _ _ _ _ _ _; refine draw_tree tabOk mixed [] _ dtGY0 (by kernel_rfl) (by kernel_rfl) (by kernel_rfl) (List.Sublist.refl _) ?_) | (show drawK _ 14 _ _ _ _ _ _; refine draw_tree tabOk mixed [25] _ dtGY1 (by kernel_rfl) (by kernel_rfl) (by kernel_rfl) (List.Sublist.refl _) ?_) | (show Wp _ _ _ _ _ _ _; refine Wp.go tabOk rfl ?_) | (show @cmpK _ _ _; (first | refine cmpY ?_ | refine cmpN ?_ | (refine cmp_both ?_ ?_ <;> intro _))) | (show wrapK _ _ _; refine wrapA ?_) | (show leK _ _ _; refine leA ?_) | (show roomK _ _ _; refine roomA ?_) | (show ltK _ _ _; refine ltA ?_) | (show _ ∧ _; refine ⟨?_, ?_⟩) | (show keepK _ _ _ _ _; refine keepA ?_) | refine own_keep ?_ | refine ap_old ?_))
            conv => whnf
            exact ends_node (by first | exact List.mem_cons_self | exact List.mem_cons_of_mem _ List.mem_cons_self | (repeat (first | exact List.mem_cons_self | apply List.mem_cons_of_mem))) hky (fun _ _ h => h) (fun ρ w' hw => by
              obtain ⟨d, e1, e2, e3, e4⟩ := own_new (xs := [y]) hw (fun _ _ h => h) (by first | exact List.mem_cons_self | exact List.mem_cons_of_mem _ List.mem_cons_self | (repeat (first | exact List.mem_cons_self | apply List.mem_cons_of_mem))) (by first | exact List.mem_cons_self | exact List.mem_cons_of_mem _ List.mem_cons_self | (repeat (first | exact List.mem_cons_self | apply List.mem_cons_of_mem))) (by decide) rfl (small_i64 (smallL1 hy)) (by simp)
              exact ⟨(⟨7, ((sv.l.length : Int) - 1 - r), 0, nilI, 0, 0, 0, d, nilI⟩, false), agg_data e1, ⟨by rw [hia]; exact good_scale hi2 hgi huo e3 (by rw [e2]; rfl) (e2 ▸ smallL1 hy) h24, fun h => (by cases h)⟩, ⟨fun _ => nilI_holds _ _, e4, nilI_holds _ _⟩⟩)
      · (repeat' ((conv => whnf) <;> first | (show drawK _ 13 _ _ _ _ _ _; refine draw_tree tabOk mixed [] _ dtGY0 (by kernel_rfl) (by kernel_rfl) (by kernel_rfl) (List.Sublist.refl _) ?_) | (show drawK _ 14 _ _ _ _ _ _; refine draw_tree tabOk mixed [25] _ dtGY1 (by kernel_rfl) (by kernel_rfl) (by kernel_rfl) (List.Sublist.refl _) ?_) | (show Wp _ _ _ _ _ _ _; refine Wp.go tabOk rfl ?_) | (show @cmpK _ _ _; (first | refine cmpY ?_ | refine cmpN ?_ | (refine cmp_both ?_ ?_ <;> intro _))) | (show wrapK _ _ _; refine wrapA ?_) | (show leK _ _ _; refine leA ?_) | (show roomK _ _ _; refine roomA ?_) | (show ltK _ _ _; refine ltA ?_) | (show _ ∧ _; refine ⟨?_, ?_⟩) | (show keepK _ _ _ _ _; refine keepA ?_) | refine own_keep ?_ | refine ap_old ?_))
        refine call_num (f := 70) [] t k2 _ (by first | exact List.mem_cons_self | exact List.mem_cons_of_mem _ List.mem_cons_self | (repeat (first | exact List.mem_cons_self | apply List.mem_cons_of_mem))) Try.call70 hs hby hk2 (fun R w' h => rest_holds hd (by first | exact h | exact h.1 | exact h.1.1 | exact h.1.1.1)) (fun w' b' ht => small_any w' b' t k2 ht) (fun y ky hy hky => ?_)
        (repeat' ((conv => whnf) <;> first | (show drawK _ 13 _ _ _ _ _ _; refine draw_tree tabOk mixed [] _ dtGY0 (by kernel_rfl) (by kernel_rfl) (by kernel_rfl) (List.Sublist.refl _) ?_) | (show drawK _ 14 _ _ _ _ _ _; refine draw_tree tabOk mixed [25] _ dtGY1 (by kernel_rfl) (by kernel_rfl) (by kernel_rfl) (List.Sublist.refl _) ?_) | (show Wp _ _ _ _ _ _ _; refine Wp.go tabOk rfl ?_) | (show @cmpK _ _ _; (first | refine cmpY ?_ | refine cmpN ?_ | (refine cmp_both ?_ ?_ <;> intro _))) | (show wrapK _ _ _; refine wrapA ?_) | (show leK _ _ _; refine leA ?_) | (show roomK _ _ _; refine roomA ?_) | (show ltK _ _ _; refine ltA ?_) | (show _ ∧ _; refine ⟨?_, ?_⟩) | (show keepK _ _ _ _ _; refine keepA ?_) | refine own_keep ?_ | refine ap_old ?_))
        conv => whnf
        exact ends_node (by first | exact List.mem_cons_self | exact List.mem_cons_of_mem _ List.mem_cons_self | (repeat (first | exact List.mem_cons_self | apply List.mem_cons_of_mem))) hky (fun _ _ h => h) (fun ρ w' hw => by
          obtain ⟨d, e1, e2, e3, e4⟩ := own_new (xs := [y]) hw (fun _ _ h => h) (by first | exact List.mem_cons_self | exact List.mem_cons_of_mem _ List.mem_cons_self | (repeat (first | exact List.mem_cons_self | apply List.mem_cons_of_mem))) (by first | exact List.mem_cons_self | exact List.mem_cons_of_mem _ List.mem_cons_self | (repeat (first | exact List.mem_cons_self | apply List.mem_cons_of_mem))) (by decide) rfl (small_i64 (smallL1 hy)) (by simp)
          exact ⟨(⟨7, ((sv.l.length : Int) - 1 - r), 0, nilI, 0, 0, 0, d, nilI⟩, false), agg_data e1, ⟨by rw [hia]; exact good_scale hi2 hgi huo e3 (by rw [e2]; rfl) (e2 ▸ smallL1 hy) h24, fun h => (by cases h)⟩, ⟨fun _ => nilI_holds _ _, e4, nilI_holds _ _⟩⟩)
    · (repeat' ((conv => whnf) <;> first | (show drawK _ 13 _ _ _ _ _ _; refine draw_tree tabOk mixed [] _ dtGY0 (by kernel_rfl) (by kernel_rfl) (by kernel_rfl) (List.Sublist.refl _) ?_) | (show drawK _ 14 _ _ _ _ _ _; refine draw_tree tabOk mixed [25] _ dtGY1 (by kernel_rfl) (by kernel_rfl) (by kernel_rfl) (List.Sublist.refl _) ?_) | (show Wp _ _ _ _ _ _ _; refine Wp.go tabOk rfl ?_) | (show @cmpK _ _ _; (first | refine cmpY ?_ | refine cmpN ?_ | (refine cmp_both ?_ ?_ <;> intro _))) | (show wrapK _ _ _; refine wrapA ?_) | (show leK _ _ _; refine leA ?_) | (show roomK _ _ _; refine roomA ?_) | (show ltK _ _ _; refine ltA ?_) | (show _ ∧ _; refine ⟨?_, ?_⟩) | (show keepK _ _ _ _ _; refine keepA ?_) | refine own_keep ?_ | refine ap_old ?_))
      refine Wp.loop (σ := Nat × Nat) 2 (fun ⟨j, _⟩ => [(126, .c (.int .i64 sv.l.length)), (127, .c (.int .i64 j)), (0, .lp 0 0 0 0), (1, .c sv.val), (6, .c u.val), (5, .c (.int .i64 ((sv.l.length : Int) - 1 - r))), (4, .lp 1 0 0 0)]) (fun ⟨_, kt⟩ => [(1, .box (cs [.int .i64 0, .int .i64 0, .int .i64 0, .slice none 0 0, .int .i64 0, .int .i64 0, .int .i64 0, .slice none 0 0, .slice none 0 0]) 38), (0, .box (cs (tcells t kt)) 30)]) (fun _ => restA w b)
        (fun ⟨j, kt⟩ => j ≤ sv.l.length ∧ kt ≤ t.bs.length) (fun s => sv.l.length - s.1) (0, k2) [] (by decide) (fun s => ⟨rfl, rfl⟩) ⟨by simp, hk2⟩ ⟨rfl, ⟨rfl, rfl, rfl, rfl, rfl, rfl, rfl, trivial⟩, ⟨List.mem_cons_self, List.mem_cons_of_mem _ List.mem_cons_self, trivial⟩, fun _ _ h => h⟩ ?_
      rintro ⟨j, kt⟩ ⟨hj, hkt⟩
      by_cases hlt : j < sv.l.length
      · have hgj := shapes_get hlt
        have hvm := List.getElem_mem hlt
        have hrowj := shRows_get hlt
        generalize sv.l[j] = v at *
        have hj2 : j < (sv.l.map (·.xs)).length := by rw [hlm]; exact hlt
        (repeat' ((conv => whnf) <;> first | (show idxK _ _ _ _ _; refine idx_of sb j hsb rfl hlt ?_) | (show roK _ _ _; (refine ro_row0 (fun R w' h => by rw [← hsb]; exact rowsA_in (rest_holds hsv h).1) _ _ hrowj rfl ?_)) | (show callK _ 26 _ _ _ _ _; ((refine call_bool (f := 26) Try.call26 _ (fun ρ w' hw => same_any w' v u (holds_of_abs hw fun R h => intsA_ok (hsane v hvm) ((rest_holds hsv h).2 v hvm)) (holds_of_abs hw fun R h => intsA_ok hus ((rest_holds hsv h).2 u hum))) ?_ ?_ <;> intro he))) | (show callK _ 41 _ _ _ _ _; (refine call_num (f := 41) [.int .i64 2] t kt _ (by first | exact List.mem_cons_self | exact List.mem_cons_of_mem _ List.mem_cons_self | (repeat (first | exact List.mem_cons_self | apply List.mem_cons_of_mem))) Try.call41 hs hby hkt (fun R w' h => rest_holds hd (by first | exact h | exact h.1 | exact h.1.1 | exact h.1.1.1)) (fun w' b' ht => next_any w' b' t kt ht 2 ⟨by decide, by decide⟩) (fun z k3 hz hk3 => ?_))) | (show drawK _ 13 _ _ _ _ _ _; refine draw_tree tabOk mixed [] _ dtGY0 (by kernel_rfl) (by kernel_rfl) (by kernel_rfl) (List.Sublist.refl _) ?_) | (show drawK _ 14 _ _ _ _ _ _; refine draw_tree tabOk mixed [25] _ dtGY1 (by kernel_rfl) (by kernel_rfl) (by kernel_rfl) (List.Sublist.refl _) ?_) | (show Wp _ _ _ _ _ _ _; refine Wp.go tabOk rfl ?_) | (show @cmpK _ _ _; (first | refine cmpY ?_ | refine cmpN ?_ | (refine cmp_both ?_ ?_ <;> intro _))) | (show wrapK _ _ _; refine wrapA ?_) | (show leK _ _ _; refine leA ?_) | (show roomK _ _ _; refine roomA ?_) | (show ltK _ _ _; refine ltA ?_) | (show _ ∧ _; refine ⟨?_, ?_⟩) | (show keepK _ _ _ _ _; refine keepA ?_) | refine own_keep ?_ | refine ap_old ?_))
        · conv => whnf
          exact ends_node (by first | exact List.mem_cons_self | exact List.mem_cons_of_mem _ List.mem_cons_self | (repeat (first | exact List.mem_cons_self | apply List.mem_cons_of_mem))) hk3 (fun _ _ h => h) (fun ρ w' hw => ⟨(⟨6, ((sv.l.length : Int) - 1 - r), j, nilI, 0, 0, 0, nilI, nilI⟩, false), rfl, ⟨by rw [hia]; exact good_add hi2 hj2 hgi (hgj.trans (of_decide_eq_true he)) huo h24, fun h => (by cases h)⟩, ⟨fun _ => nilI_holds _ _, nilI_holds _ _, nilI_holds _ _⟩⟩)
        · exact ⟨(j + 1, k3), [], ⟨hlt, hk3⟩, by simp only; omega, rfl, ⟨rfl, rfl, rfl, rfl, rfl, rfl, rfl, trivial⟩, ⟨List.mem_cons_self, List.mem_cons_of_mem _ List.mem_cons_self, trivial⟩, fun _ _ h => h⟩
        · exact ⟨(j + 1, kt), [], ⟨hlt, hkt⟩, by simp only; omega, rfl, ⟨rfl, rfl, rfl, rfl, rfl, rfl, rfl, trivial⟩, ⟨List.mem_cons_self, List.mem_cons_of_mem _ List.mem_cons_self, trivial⟩, fun _ _ h => h⟩
      · (repeat' ((conv => whnf) <;> first | (show drawK _ 13 _ _ _ _ _ _; refine draw_tree tabOk mixed [] _ dtGY0 (by kernel_rfl) (by kernel_rfl) (by kernel_rfl) (List.Sublist.refl _) ?_) | (show drawK _ 14 _ _ _ _ _ _; refine draw_tree tabOk mixed [25] _ dtGY1 (by kernel_rfl) (by kernel_rfl) (by kernel_rfl) (List.Sublist.refl _) ?_) | (show Wp _ _ _ _ _ _ _; refine Wp.go tabOk rfl ?_) | (show @cmpK _ _ _; (first | refine cmpY ?_ | refine cmpN ?_ | (refine cmp_both ?_ ?_ <;> intro _))) | (show wrapK _ _ _; refine wrapA ?_) | (show leK _ _ _; refine leA ?_) | (show roomK _ _ _; refine roomA ?_) | (show ltK _ _ _; refine ltA ?_) | (show _ ∧ _; refine ⟨?_, ?_⟩) | (show keepK _ _ _ _ _; refine keepA ?_) | refine own_keep ?_ | refine ap_old ?_))
        conv => whnf
        exact ends_node (by first | exact List.mem_cons_self | exact List.mem_cons_of_mem _ List.mem_cons_self | (repeat (first | exact List.mem_cons_self | apply List.mem_cons_of_mem))) hkt (fun _ _ h => h) (fun ρ w' hw => ⟨(⟨6, ((sv.l.length : Int) - 1 - r), ((sv.l.length : Int) - 1 - r), nilI, 0, 0, 0, nilI, nilI⟩, false), rfl, ⟨by rw [hia]; exact good_add hi2 hi2 hgi hgi huo h24, fun h => (by cases h)⟩, ⟨fun _ => nilI_holds _ _, nilI_holds _ _, nilI_holds _ _⟩⟩)
    · (repeat' ((conv => whnf) <;> first | (show drawK _ 13 _ _ _ _ _ _; refine draw_tree tabOk mixed [] _ dtGY0 (by kernel_rfl) (by kernel_rfl) (by kernel_rfl) (List.Sublist.refl _) ?_) | (show drawK _ 14 _ _ _ _ _ _; refine draw_tree tabOk mixed [25] _ dtGY1 (by kernel_rfl) (by kernel_rfl) (by kernel_rfl) (List.Sublist.refl _) ?_) | (show Wp _ _ _ _ _ _ _; refine Wp.go tabOk rfl ?_) | (show @cmpK _ _ _; (first | refine cmpY ?_ | refine cmpN ?_ | (refine cmp_both ?_ ?_ <;> intro _))) | (show wrapK _ _ _; refine wrapA ?_) | (show leK _ _ _; refine leA ?_) | (show roomK _ _ _; refine roomA ?_) | (show ltK _ _ _; refine ltA ?_) | (show _ ∧ _; refine ⟨?_, ?_⟩) | (show keepK _ _ _ _ _; refine keepA ?_) | refine own_keep ?_ | refine ap_old ?_))
      refine call_num (f := 70) [] t k2 _ (by first | exact List.mem_cons_self | exact List.mem_cons_of_mem _ List.mem_cons_self | (repeat (first | exact List.mem_cons_self | apply List.mem_cons_of_mem))) Try.call70 hs hby hk2 (fun R w' h => rest_holds hd (by first | exact h | exact h.1 | exact h.1.1 | exact h.1.1.1)) (fun w' b' ht => small_any w' b' t k2 ht) (fun x k3 hx hk3 => ?_)
      (repeat' ((conv => whnf) <;> first | (show drawK _ 13 _ _ _ _ _ _; refine draw_tree tabOk mixed [] _ dtGY0 (by kernel_rfl) (by kernel_rfl) (by kernel_rfl) (List.Sublist.refl _) ?_) | (show drawK _ 14 _ _ _ _ _ _; refine draw_tree tabOk mixed [25] _ dtGY1 (by kernel_rfl) (by kernel_rfl) (by kernel_rfl) (List.Sublist.refl _) ?_) | (show Wp _ _ _ _ _ _ _; refine Wp.go tabOk rfl ?_) | (show @cmpK _ _ _; (first | refine cmpY ?_ | refine cmpN ?_ | (refine cmp_both ?_ ?_ <;> intro _))) | (show wrapK _ _ _; refine wrapA ?_) | (show leK _ _ _; refine leA ?_) | (show roomK _ _ _; refine roomA ?_) | (show ltK _ _ _; refine ltA ?_) | (show _ ∧ _; refine ⟨?_, ?_⟩) | (show keepK _ _ _ _ _; refine keepA ?_) | refine own_keep ?_ | refine ap_old ?_))
      refine call_num (f := 70) [] t k3 _ (by first | exact List.mem_cons_self | exact List.mem_cons_of_mem _ List.mem_cons_self | (repeat (first | exact List.mem_cons_self | apply List.mem_cons_of_mem))) Try.call70 hs hby hk3 (fun R w' h => rest_holds hd (by first | exact h | exact h.1 | exact h.1.1 | exact h.1.1.1)) (fun w' b' ht => small_any w' b' t k3 ht) (fun y k4 hy hk4 => ?_)
      (repeat' ((conv => whnf) <;> first | (show drawK _ 13 _ _ _ _ _ _; refine draw_tree tabOk mixed [] _ dtGY0 (by kernel_rfl) (by kernel_rfl) (by kernel_rfl) (List.Sublist.refl _) ?_) | (show drawK _ 14 _ _ _ _ _ _; refine draw_tree tabOk mixed [25] _ dtGY1 (by kernel_rfl) (by kernel_rfl) (by kernel_rfl) (List.Sublist.refl _) ?_) | (show Wp _ _ _ _ _ _ _; refine Wp.go tabOk rfl ?_) | (show @cmpK _ _ _; (first | refine cmpY ?_ | refine cmpN ?_ | (refine cmp_both ?_ ?_ <;> intro _))) | (show wrapK _ _ _; refine wrapA ?_) | (show leK _ _ _; refine leA ?_) | (show roomK _ _ _; refine roomA ?_) | (show ltK _ _ _; refine ltA ?_) | (show _ ∧ _; refine ⟨?_, ?_⟩) | (show keepK _ _ _ _ _; refine keepA ?_) | refine own_keep ?_ | refine ap_old ?_))
      refine call_num (f := 41) [.int .i64 3] t k4 _ (by first | exact List.mem_cons_self | exact List.mem_cons_of_mem _ List.mem_cons_self | (repeat (first | exact List.mem_cons_self | apply List.mem_cons_of_mem))) Try.call41 hs hby hk4 (fun R w' h => rest_holds hd (by first | exact h | exact h.1 | exact h.1.1 | exact h.1.1.1)) (fun w' b' ht => next_any w' b' t k4 ht 3 ⟨by omega, by omega⟩) (fun z k5 hz hk5 => ?_)
      have hz0 := hz.1
      have hz1 := hz.2.1 (by omega)
      have hz2 : -4 ≤ z - 1 ∧ z - 1 ≤ 4 := by omega
      (repeat' ((conv => whnf) <;> first | (show drawK _ 13 _ _ _ _ _ _; refine draw_tree tabOk mixed [] _ dtGY0 (by kernel_rfl) (by kernel_rfl) (by kernel_rfl) (List.Sublist.refl _) ?_) | (show drawK _ 14 _ _ _ _ _ _; refine draw_tree tabOk mixed [25] _ dtGY1 (by kernel_rfl) (by kernel_rfl) (by kernel_rfl) (List.Sublist.refl _) ?_) | (show Wp _ _ _ _ _ _ _; refine Wp.go tabOk rfl ?_) | (show @cmpK _ _ _; (first | refine cmpY ?_ | refine cmpN ?_ | (refine cmp_both ?_ ?_ <;> intro _))) | (show wrapK _ _ _; refine wrapA ?_) | (show leK _ _ _; refine leA ?_) | (show roomK _ _ _; refine roomA ?_) | (show ltK _ _ _; refine ltA ?_) | (show _ ∧ _; refine ⟨?_, ?_⟩) | (show keepK _ _ _ _ _; refine keepA ?_) | refine own_keep ?_ | refine ap_old ?_))
      conv => whnf
      exact ends_node (by first | exact List.mem_cons_self | exact List.mem_cons_of_mem _ List.mem_cons_self | (repeat (first | exact List.mem_cons_self | apply List.mem_cons_of_mem))) hk5 (fun _ _ h => h) (fun ρ w' hw => by
        obtain ⟨d, e1, e2, e3, e4⟩ := own_new (xs := [x, y, z - 1]) hw (fun _ _ h => h) (by first | exact List.mem_cons_self | exact List.mem_cons_of_mem _ List.mem_cons_self | (repeat (first | exact List.mem_cons_self | apply List.mem_cons_of_mem))) (by first | exact List.mem_cons_self | exact List.mem_cons_of_mem _ List.mem_cons_self | (repeat (first | exact List.mem_cons_self | apply List.mem_cons_of_mem))) (by decide) rfl (small_i64 (smallL3 hx hy hz2)) (by simp)
        exact ⟨(⟨8, ((sv.l.length : Int) - 1 - r), 0, nilI, 0, 0, 0, d, nilI⟩, false), agg_data e1, ⟨by rw [hia]; exact good_power hi2 hgi huo e3 (by rw [e2]; rfl) (e2 ▸ smallL3 hx hy hz2) h24, fun h => (by cases h)⟩, ⟨fun _ => nilI_holds _ _, e4, nilI_holds _ _⟩⟩)
    · (repeat' ((conv => whnf) <;> first | (show drawK _ 13 _ _ _ _ _ _; refine draw_tree tabOk mixed [] _ dtGY0 (by kernel_rfl) (by kernel_rfl) (by kernel_rfl) (List.Sublist.refl _) ?_) | (show drawK _ 14 _ _ _ _ _ _; refine draw_tree tabOk mixed [25] _ dtGY1 (by kernel_rfl) (by kernel_rfl) (by kernel_rfl) (List.Sublist.refl _) ?_) | (show Wp _ _ _ _ _ _ _; refine Wp.go tabOk rfl ?_) | (show @cmpK _ _ _; (first | refine cmpY ?_ | refine cmpN ?_ | (refine cmp_both ?_ ?_ <;> intro _))) | (show wrapK _ _ _; refine wrapA ?_) | (show leK _ _ _; refine leA ?_) | (show roomK _ _ _; refine roomA ?_) | (show ltK _ _ _; refine ltA ?_) | (show _ ∧ _; refine ⟨?_, ?_⟩) | (show keepK _ _ _ _ _; refine keepA ?_) | refine own_keep ?_ | refine ap_old ?_))
      conv => whnf
      exact ends_node (by first | exact List.mem_cons_self | exact List.mem_cons_of_mem _ List.mem_cons_self | (repeat (first | exact List.mem_cons_self | apply List.mem_cons_of_mem))) hk2 (fun _ _ h => h) (fun ρ w' hw => by
        obtain ⟨d, e1, e2, e3, e4⟩ := own_new (xs := [entries u.xs]) hw (fun _ _ h => h) (by first | exact List.mem_cons_self | exact List.mem_cons_of_mem _ List.mem_cons_self | (repeat (first | exact List.mem_cons_self | apply List.mem_cons_of_mem))) (by first | exact List.mem_cons_self | exact List.mem_cons_of_mem _ List.mem_cons_self | (repeat (first | exact List.mem_cons_self | apply List.mem_cons_of_mem))) (by decide) rfl (by intro x hx; rw [List.mem_singleton] at hx; subst hx; exact ⟨by omega, by omega⟩) (by simp)
        exact ⟨(⟨9, ((sv.l.length : Int) - 1 - r), 0, d, 0, 0, 0, nilI, nilI⟩, false), agg_shape e1, ⟨by rw [hia]; exact good_flat hi2 hgi huo e3 e2 h24, fun h => (by cases h)⟩, ⟨fun _ => e4, nilI_holds _ _, nilI_holds _ _⟩⟩)
    · (repeat' ((conv => whnf) <;> first | (show drawK _ 13 _ _ _ _ _ _; refine draw_tree tabOk mixed [] _ dtGY0 (by kernel_rfl) (by kernel_rfl) (by kernel_rfl) (List.Sublist.refl _) ?_) | (show drawK _ 14 _ _ _ _ _ _; refine draw_tree tabOk mixed [25] _ dtGY1 (by kernel_rfl) (by kernel_rfl) (by kernel_rfl) (List.Sublist.refl _) ?_) | (show Wp _ _ _ _ _ _ _; refine Wp.go tabOk rfl ?_) | (show @cmpK _ _ _; (first | refine cmpY ?_ | refine cmpN ?_ | (refine cmp_both ?_ ?_ <;> intro _))) | (show wrapK _ _ _; refine wrapA ?_) | (show leK _ _ _; refine leA ?_) | (show roomK _ _ _; refine roomA ?_) | (show ltK _ _ _; refine ltA ?_) | (show _ ∧ _; refine ⟨?_, ?_⟩) | (show keepK _ _ _ _ _; refine keepA ?_) | refine own_keep ?_ | refine ap_old ?_))
      refine call_num (f := 70) [] t k2 _ (by first | exact List.mem_cons_self | exact List.mem_cons_of_mem _ List.mem_cons_self | (repeat (first | exact List.mem_cons_self | apply List.mem_cons_of_mem))) Try.call70 hs hby hk2 (fun R w' h => rest_holds hd (by first | exact h | exact h.1 | exact h.1.1 | exact h.1.1.1)) (fun w' b' ht => small_any w' b' t k2 ht) (fun y ky hy hky => ?_)
      (repeat' ((conv => whnf) <;> first | (show drawK _ 13 _ _ _ _ _ _; refine draw_tree tabOk mixed [] _ dtGY0 (by kernel_rfl) (by kernel_rfl) (by kernel_rfl) (List.Sublist.refl _) ?_) | (show drawK _ 14 _ _ _ _ _ _; refine draw_tree tabOk mixed [25] _ dtGY1 (by kernel_rfl) (by kernel_rfl) (by kernel_rfl) (List.Sublist.refl _) ?_) | (show Wp _ _ _ _ _ _ _; refine Wp.go tabOk rfl ?_) | (show @cmpK _ _ _; (first | refine cmpY ?_ | refine cmpN ?_ | (refine cmp_both ?_ ?_ <;> intro _))) | (show wrapK _ _ _; refine wrapA ?_) | (show leK _ _ _; refine leA ?_) | (show roomK _ _ _; refine roomA ?_) | (show ltK _ _ _; refine ltA ?_) | (show _ ∧ _; refine ⟨?_, ?_⟩) | (show keepK _ _ _ _ _; refine keepA ?_) | refine own_keep ?_ | refine ap_old ?_))
      conv => whnf
      exact ends_node (by first | exact List.mem_cons_self | exact List.mem_cons_of_mem _ List.mem_cons_self | (repeat (first | exact List.mem_cons_self | apply List.mem_cons_of_mem))) hky (fun _ _ h => h) (fun ρ w' hw => by
        obtain ⟨d, e1, e2, e3, e4⟩ := own_new (xs := [y]) hw (fun _ _ h => h) (by first | exact List.mem_cons_self | exact List.mem_cons_of_mem _ List.mem_cons_self | (repeat (first | exact List.mem_cons_self | apply List.mem_cons_of_mem))) (by first | exact List.mem_cons_self | exact List.mem_cons_of_mem _ List.mem_cons_self | (repeat (first | exact List.mem_cons_self | apply List.mem_cons_of_mem))) (by decide) rfl (small_i64 (smallL1 hy)) (by simp)
        exact ⟨(⟨7, ((sv.l.length : Int) - 1 - r), 0, nilI, 0, 0, 0, d, nilI⟩, false), agg_data e1, ⟨by rw [hia]; exact good_scale hi2 hgi huo e3 (by rw [e2]; rfl) (e2 ▸ smallL1 hy) h24, fun h => (by cases h)⟩, ⟨fun _ => nilI_holds _ _, e4, nilI_holds _ _⟩⟩)
end Go.Proofs.Ytdmkdogakbipbaa

/- GZ -/
namespace Go.Proofs.Ytdmkdogakbipbaa
open Go.SX Go.RowKit
theorem checkR_snoc : ∀ {l : List NodeV} {sh0 sh : List (List Int)} {n : NodeV} {s : List Int}, checkR l sh0 = (0, sh) → formB n sh.length = true → shapeO n sh = some s → nearB n = true → checkR (l ++ [n]) sh0 = (0, sh ++ [s])
  | [], sh0, sh, n, s, h, h1, h2, h3 => by
    obtain rfl : sh0 = sh := by simpa [checkR] using h
    rw [List.nil_append, checkR_next h1 h2 h3]; rfl
  | m :: r, sh0, sh, n, s, h, h1, h2, h3 => by
    by_cases hf : formB m sh0.length = false
    · rw [checkR_form hf] at h; simp at h
    have hf : formB m sh0.length = true := by simpa using hf
    cases hs : shapeO m sh0 with
    | none => rw [checkR_shape hf hs] at h; simp at h
    | some q =>
      by_cases hn : nearB m = false
      · rw [checkR_near hf hs hn] at h; simp at h
      have hn : nearB m = true := by simpa using hn
      rw [checkR_next hf hs hn] at h
      rw [List.cons_append, checkR_next hf hs hn]
      exact checkR_snoc h h1 h2 h3
theorem checkR_length : ∀ (l : List NodeV) (sh : List (List Int)), (checkR l sh).1 = 0 → (checkR l sh).2.length = sh.length + l.length
  | [], sh, _ => by simp [checkR]
  | n :: r, sh, h => by
    by_cases hf : formB n sh.length = false
    · rw [checkR_form hf] at h; simp at h
    have hf : formB n sh.length = true := by simpa using hf
    cases hs : shapeO n sh with
    | none => rw [checkR_shape hf hs] at h; simp at h
    | some s =>
      by_cases hn : nearB n = false
      · rw [checkR_near hf hs hn] at h; simp at h
      have hn : nearB n = true := by simpa using hn
      rw [checkR_next hf hs hn] at h ⊢
      rw [checkR_length r _ h]
      simp; omega
structure MadeL (l : List NodeV) : Prop where
  one : 1 ≤ l.length
  shapes : ∃ sh, checkR l [] = (0, sh) ∧ ∀ s ∈ sh, ShOk s
  each : ∀ n ∈ l, Made n
theorem madeL_snoc {l : List NodeV} {n : NodeV} {sh : List (List Int)} (h : MadeL l) (hsh : checkR l [] = (0, sh)) (hn : GoodNode n sh) (hok : ∀ s ∈ sh, ShOk s) : MadeL (l ++ [n]) := by
  obtain ⟨s, hs, hso⟩ := hn.shape
  refine ⟨by simp, ⟨sh ++ [s], checkR_snoc hsh hn.form hs hn.near, ?_⟩, ?_⟩
  · intro x hx
    rcases List.mem_append.1 hx with hx | hx
    · exact hok x hx
    · simp at hx; subst hx; exact hso
  · intro x hx
    rcases List.mem_append.1 hx with hx | hx
    · exact h.each x hx
    · simp at hx; subst hx; exact hn.made
theorem madeL_one {n : NodeV} (hn : GoodNode n []) : MadeL [n] := by
  obtain ⟨s, hs, hso⟩ := hn.shape
  refine ⟨by simp, ⟨[s], checkR_snoc (l := []) rfl hn.form hs hn.near, ?_⟩, ?_⟩
  · intro x hx; simp at hx; subst hx; exact hso
  · intro x hx; simp at hx; subst hx; exact hn.made
theorem check_made {l : List NodeV} {base : Option Addr} {cap : Nat} {out : Int} {sh : List (List Int)} (h1 : 1 ≤ l.length) (h24 : l.length ≤ 24) (ho : 0 ≤ out ∧ out < l.length) (h : checkR l [] = (0, sh)) : check ⟨base, cap, l, out⟩ = (0, sh) := by
  unfold check
  rw [if_neg (by simp only; omega)]
  exact h
/-- the numbers of several nodes -/
def nodesD (l : List NodeV) : Asn where
  holds R w := ∀ n ∈ l, (nodeD n false).holds R w
  stable := fun hR hw h n hn => (nodeD n false).stable hR hw (h n hn)
theorem made_ok {n : NodeV} {R : Nat → Prop} {w : World} (hm : Made n) (h : (nodeD n false).holds R w) : n.ok w :=
  ⟨intsA_ok hm.shape (h.1 rfl), intsA_ok hm.data h.2.1, intsA_ok hm.bias h.2.2, hm.kindFits, hm.aFits, hm.bFits, hm.loFits, hm.hiFits, hm.sizeFits⟩
theorem graph_ok {l : List NodeV} {base : Option Addr} {cap : Nat} {out : Int} {R : Nat → Prop} {w : World} (hm : ∀ n ∈ l, Made n) (hl : l.length ≤ 1000) (hr : RowsI w base 9 (nodeRows l)) (h : (nodesD l).holds R w) (ho : i64 out) : (⟨base, cap, l, out⟩ : GraphV).ok w :=
  ⟨hr, fun n hn => made_ok (hm n hn) (h n hn), fun n hn => ⟨by have := (hm n hn).dataFew; omega, by have := (hm n hn).biasFew; omega⟩, by simp only; omega, ho⟩
def GraphPost (w : World) (b : Nat) (t : BytesV) (e : Ending) (w' : World) : Prop :=
  ∃ (l : List NodeV) (out : Int) (k : Nat) (l0 : SX.Loc) (F : Nat → Prop), MadeL l ∧ l.length ≤ 8 ∧ 0 ≤ out ∧ out < l.length ∧ k ≤ t.bs.length ∧ e = .returned (.agg #[.slice l0.base l.length l0.cap, .int .i64 out]) ∧ Step (fun y => y = b) w w' ∧
    w'.heap[b]? = some (.cells (tcells t k).toArray 30 (0, 0)) ∧ (∀ x, F x → w.heap.size ≤ x) ∧ (Ent.rows (nodeRows l) 9 38).holds (fun _ => l0) l0 F w' ∧ (nodesD l).holds (fun y => (w.heap.size ≤ y ∧ y < w'.heap.size) ∧ ¬ F y) w'
theorem ends_graph {w : World} {b : Nat} {t : BytesV} {H : Heap} {S : Asn} {nx j m k : Nat} {l : List NodeV} {out : Int} (h0 : (0, Ent.box (cs (tcells t k)) 30) ∈ H) (he : (j, Ent.rows (nodeRows l) 9 38) ∈ H) (hj : j ≠ 0) (hm : m = l.length) (hk : k ≤ t.bs.length) (hml : MadeL l) (h8 : l.length ≤ 8) (ho : 0 ≤ out ∧ out < l.length)
    (hS : ∀ R w', S.holds R w' → (restA w b).holds R w') (hD : ∀ R w', S.holds R w' → ((nodesD l).past w.heap.size).holds R w') : finK ⟨w, [(0, boxL b)]⟩ (.agg [.os j m, .c (.int .i64 out)]) H S nx (GraphPost w b t) := by
  subst hm
  refine fin_of fun ρ w' hw => ?_
  have hend := box_end hw hS h0
  obtain ⟨R, φ, hw⟩ := hw
  have hp := (hw.pin (0, boxL b) List.mem_cons_self).2
  obtain ⟨b', h1, h2, h3⟩ := hw.ent _ h0
  simp only at hp h1
  rw [hp] at h1
  obtain rfl : b = b' := by simpa [boxL] using h1
  refine ⟨l, out, k, ρ j, φ j, hml, h8, ho.1, ho.2, hk, rfl, hend.1, hend.2, fun x hx => ?_, hw.ent _ he, (nodesD l).mono (hD R w' hw.asn) (fun x hx => ⟨⟨hx.2, hw.ro x hx.1⟩, fun hF => hw.apart _ he x hF hx.1⟩)⟩
  rcases Nat.lt_or_ge x w.heap.size with hl | hl
  · exfalso
    by_cases hxb : x = b
    · exact sep_two hw.sep he h0 hj x hx ((h2 x).2 hxb)
    · exact hw.apart _ he x hx (hS R w' hw.asn x ⟨hl, hxb⟩).1
  · exact hl
theorem nodesD_one {n : NodeV} {N : Nat} {R : Nat → Prop} {w : World} (h : ((nodeD n false).past N).holds R w) : ((nodesD [n]).past N).holds R w := fun m hm => by simp at hm; subst hm; exact h
theorem nodesD_snoc {l : List NodeV} {n : NodeV} {N : Nat} {R : Nat → Prop} {w : World} (hl : ((nodesD l).past N).holds R w) (h : ((nodeD n false).past N).holds R w) : ((nodesD (l ++ [n])).past N).holds R w := fun m hm => by
  rcases List.mem_append.1 hm with hm | hm
  · exact hl m hm
  · simp at hm; subst hm; exact h
theorem node_snoc (l : List NodeV) (n : NodeV) {i : Nat} {T : TypeId} {H : Heap} : (i, Ent.rows (nodeRows (l ++ [n])) 9 T) ∈ (i, Ent.rows (List.take l.length (nodeRows l) ++ [n.cells]) 9 T) :: H := by
  rw [show nodeRows (l ++ [n]) = List.take l.length (nodeRows l) ++ [n.cells] by rw [List.take_of_length_le (by rw [nodeRows_length]; exact Nat.le_refl _)]; simp [nodeRows]]
  exact List.mem_cons_self
theorem unalias {sv : ShapesV} {x : NodeV × Bool} {N : Nat} {R : Nat → Prop} {w : World} (ha : x.2 = true → x.1.shape ∈ sv.l) (hs : ((shapesD sv).past N).holds R w) (hn : ((nodeD x.1 x.2).past N).holds R w) : ((nodeD x.1 false).past N).holds R w :=
  ⟨fun _ => by
    cases h2 : x.2 with
    | true => exact hs.2 _ (ha h2)
    | false => exact hn.1 h2, hn.2⟩
set_option maxRecDepth 20000 in
set_option maxHeartbeats 8000000 in
theorem make_any (w : World) (b : Nat) (t : BytesV) (k : Nat) (h : TapeOk w b t k) : Calls Try.prog 16 #[.pointer (some ⟨b, 0, none⟩)] w (GraphPost w b t) := by
  obtain ⟨hs, hby, hd, hk, hb⟩ := h
  refine calls_of tab tabOk Try.func16 rfl rfl rfl [(0, boxL b)] (fun _ => boxL b) [.lp 0 0 0 0] _ (restA w b) 1 (by simp [SV.rfs, SV.rf, boxL, add_none]) rfl (by show 1 ≤ _; decide) (abs_box hb) ?_
  (repeat' ((conv => whnf) <;> first | (show Wp _ _ _ _ _ _ _; refine Wp.go tabOk rfl ?_) | (show @cmpK _ _ _; (first | refine cmpY ?_ | refine cmpN ?_ | (refine cmp_both ?_ ?_ <;> intro _))) | (show wrapK _ _ _; refine wrapA ?_) | (show leK _ _ _; refine leA ?_) | (show roomK _ _ _; refine roomA ?_) | (show ltK _ _ _; refine ltA ?_) | (show _ ∧ _; refine ⟨?_, ?_⟩) | (show keepK _ _ _ _ _; refine keepA ?_) | refine own_keep ?_ | refine ap_old ?_))
  refine call_t (f := 40) [] t k NodeV.valA (fun n => nodeD n false) _ (by first | exact List.mem_cons_self | exact List.mem_cons_of_mem _ List.mem_cons_self | (repeat (first | exact List.mem_cons_self | apply List.mem_cons_of_mem))) Try.call40 hs hby hk (fun R w' h => rest_holds hd (by first | exact h | exact h.1 | exact h.1.1 | exact h.1.1.1 | exact h.1.1.1.1)) (fun R w' b' ht _ _ => input_any w' b' t k ht) (fun n0 k1 hn0 hk1 => ?_)
  (repeat' ((conv => whnf) <;> first | (show Wp _ _ _ _ _ _ _; refine Wp.go tabOk rfl ?_) | (show @cmpK _ _ _; (first | refine cmpY ?_ | refine cmpN ?_ | (refine cmp_both ?_ ?_ <;> intro _))) | (show wrapK _ _ _; refine wrapA ?_) | (show leK _ _ _; refine leA ?_) | (show roomK _ _ _; refine roomA ?_) | (show ltK _ _ _; refine ltA ?_) | (show _ ∧ _; refine ⟨?_, ?_⟩) | (show keepK _ _ _ _ _; refine keepA ?_) | refine own_keep ?_ | refine ap_old ?_))
  refine call_num (f := 41) [.int .i64 8] t k1 _ (by first | exact List.mem_cons_self | exact List.mem_cons_of_mem _ List.mem_cons_self | (repeat (first | exact List.mem_cons_self | apply List.mem_cons_of_mem))) Try.call41 hs hby hk1 (fun R w' h => rest_holds hd (by first | exact h | exact h.1 | exact h.1.1 | exact h.1.1.1 | exact h.1.1.1.1)) (fun w' b' ht => next_any w' b' t k1 ht 8 ⟨by decide, by decide⟩) (fun q k2 hq hk2 => ?_)
  have hq0 := hq.1
  have hq1 := hq.2.1 (by omega)
  (repeat' ((conv => whnf) <;> first | (show Wp _ _ _ _ _ _ _; refine Wp.go tabOk rfl ?_) | (show @cmpK _ _ _; (first | refine cmpY ?_ | refine cmpN ?_ | (refine cmp_both ?_ ?_ <;> intro _))) | (show wrapK _ _ _; refine wrapA ?_) | (show leK _ _ _; refine leA ?_) | (show roomK _ _ _; refine roomA ?_) | (show ltK _ _ _; refine ltA ?_) | (show _ ∧ _; refine ⟨?_, ?_⟩) | (show keepK _ _ _ _ _; refine keepA ?_) | refine own_keep ?_ | refine ap_old ?_))
  refine Wp.loop (σ := Int × Nat × Nat × Int × List NodeV) 5 (fun ⟨i, _, _, _, _⟩ => [(0, .lp 0 0 0 0), (3, .lp 3 0 0 0), (4, .c (.int .i64 i)), (2, .lp 1 0 0 0)])
    (fun ⟨_, kt, m, out, l⟩ => [(4, .rows (nodeRows l) 9 38), (3, .box [.os 4 m, .c (.int .i64 out)] 26), (1, .box (cs [.slice none 0 0, .int .i64 0]) 26), (0, .box (cs (tcells t kt)) 30)])
    (fun ⟨_, _, _, _, l⟩ => (restA w b).and ((nodesD l).past w.heap.size))
    (fun ⟨i, kt, m, out, l⟩ => kt ≤ t.bs.length ∧ l.length = m ∧ 0 ≤ i ∧ m + i ≤ 8 ∧ MadeL l ∧ 0 ≤ out ∧ out < m) (fun s => s.1.toNat) (q, k2, 1, 0, [n0]) [(4, some 2)] (by decide) (fun s => ⟨rfl, rfl⟩) ⟨hk2, rfl, hq0, by omega, madeL_one (good_input hn0), by decide, by decide⟩ ⟨rfl, ⟨rfl, rfl, rfl, rfl, trivial⟩, ⟨(by first | exact List.mem_cons_self | exact List.mem_cons_of_mem _ List.mem_cons_self | (repeat (first | exact List.mem_cons_self | apply List.mem_cons_of_mem))), (by first | exact List.mem_cons_self | exact List.mem_cons_of_mem _ List.mem_cons_self | (repeat (first | exact List.mem_cons_self | apply List.mem_cons_of_mem))), (by first | exact List.mem_cons_self | exact List.mem_cons_of_mem _ List.mem_cons_self | (repeat (first | exact List.mem_cons_self | apply List.mem_cons_of_mem))), (by first | exact List.mem_cons_self | exact List.mem_cons_of_mem _ List.mem_cons_self | (repeat (first | exact List.mem_cons_self | apply List.mem_cons_of_mem))), trivial⟩, fun R w' h => ⟨h.1, nodesD_one h.2⟩⟩ ?_
  rintro ⟨i, kt, m, out, l⟩ ⟨hkt, hlm, hi0, hmi, hml, ho0, ho1⟩
  subst hlm
  obtain ⟨sh, hsh, hso⟩ := hml.shapes
  have hshl : sh.length = l.length := by have := checkR_length l [] (by rw [hsh]); rw [hsh] at this; simpa using this
  have hl1 := hml.one
  by_cases hi : 0 < i
  · (repeat' ((conv => whnf) <;> first | (show Wp _ _ _ _ _ _ _; refine Wp.go tabOk rfl ?_) | (show @cmpK _ _ _; (first | refine cmpY ?_ | refine cmpN ?_ | (refine cmp_both ?_ ?_ <;> intro _))) | (show wrapK _ _ _; refine wrapA ?_) | (show leK _ _ _; refine leA ?_) | (show roomK _ _ _; refine roomA ?_) | (show ltK _ _ _; refine ltA ?_) | (show _ ∧ _; refine ⟨?_, ?_⟩) | (show keepK _ _ _ _ _; refine keepA ?_) | refine own_keep ?_ | refine ap_old ?_))
    refine call_check (f := 38) (0, sh) Try.call38 (fun ρ w' hw => by
      have hg : (⟨(ρ 4).base, (ρ 4).cap, l, out⟩ : GraphV).ok w' := holds_of_abs hw fun R h => graph_ok hml.each (by omega) (rows_of_abs hw (by first | exact List.mem_cons_self | exact List.mem_cons_of_mem _ List.mem_cons_self | (repeat (first | exact List.mem_cons_self | apply List.mem_cons_of_mem)))) ((nodesD l).mono h.2 (fun b hb => hb.1)) ⟨by omega, by omega⟩
      have := refCheck_any w' _ hg
      rw [check_made hml.one (by omega) ⟨ho0, ho1⟩ hsh] at this
      exact this) (fun h => absurd rfl h) (fun _ sv hm hs2 => ?_)
    have hm : sv.l.map (·.xs) = sh := hm
    (repeat' ((conv => whnf) <;> first | (show Wp _ _ _ _ _ _ _; refine Wp.go tabOk rfl ?_) | (show @cmpK _ _ _; (first | refine cmpY ?_ | refine cmpN ?_ | (refine cmp_both ?_ ?_ <;> intro _))) | (show wrapK _ _ _; refine wrapA ?_) | (show leK _ _ _; refine leA ?_) | (show roomK _ _ _; refine roomA ?_) | (show ltK _ _ _; refine ltA ?_) | (show _ ∧ _; refine ⟨?_, ?_⟩) | (show keepK _ _ _ _ _; refine keepA ?_) | refine own_keep ?_ | refine ap_old ?_))
    refine call_t (f := 40) [] t kt NodeV.valA (fun n => nodeD n false) _ (by first | exact List.mem_cons_self | exact List.mem_cons_of_mem _ List.mem_cons_self | (repeat (first | exact List.mem_cons_self | apply List.mem_cons_of_mem))) Try.call40 hs hby hkt (fun R w' h => rest_holds hd (by first | exact h | exact h.1 | exact h.1.1 | exact h.1.1.1 | exact h.1.1.1.1)) (fun R w' b' ht _ _ => input_any w' b' t kt ht) (fun n1 k3 hn1 hk3 => ?_)
    (repeat' ((conv => whnf) <;> first | (show Wp _ _ _ _ _ _ _; refine Wp.go tabOk rfl ?_) | (show @cmpK _ _ _; (first | refine cmpY ?_ | refine cmpN ?_ | (refine cmp_both ?_ ?_ <;> intro _))) | (show wrapK _ _ _; refine wrapA ?_) | (show leK _ _ _; refine leA ?_) | (show roomK _ _ _; refine roomA ?_) | (show ltK _ _ _; refine ltA ?_) | (show _ ∧ _; refine ⟨?_, ?_⟩) | (show keepK _ _ _ _ _; refine keepA ?_) | refine own_keep ?_ | refine ap_old ?_))
    refine call_num (f := 41) [.int .i64 6] t k3 _ (by first | exact List.mem_cons_self | exact List.mem_cons_of_mem _ List.mem_cons_self | (repeat (first | exact List.mem_cons_self | apply List.mem_cons_of_mem))) Try.call41 hs hby hk3 (fun R w' h => rest_holds hd (by first | exact h | exact h.1 | exact h.1.1 | exact h.1.1.1 | exact h.1.1.1.1)) (fun w' b' ht => next_any w' b' t k3 ht 6 ⟨by decide, by decide⟩) (fun z k4 hz hk4 => ?_)
    (repeat' ((conv => whnf) <;> first | (show leK _ _ _; (refine le_of (by rw [nodeRows_length]; exact Nat.le_refl _) ?_)) | (show roomK _ _ _; (refine room_of (by show (l.length + 1) * 120 ≤ 140737488355328; omega) ?_)) | (show wrapK _ _ _; (first | refine wrap_i64 (by omega) (by omega) ?_ | (show wrapK .i64 (((l.length + 1 : Nat) : Int) - 1) _; refine wrap_i64 (by omega) (by omega) ?_))) | (show Wp _ _ _ _ _ _ _; refine Wp.go tabOk rfl ?_) | (show @cmpK _ _ _; (first | refine cmpY ?_ | refine cmpN ?_ | (refine cmp_both ?_ ?_ <;> intro _))) | (show wrapK _ _ _; refine wrapA ?_) | (show leK _ _ _; refine leA ?_) | (show roomK _ _ _; refine roomA ?_) | (show ltK _ _ _; refine ltA ?_) | (show _ ∧ _; refine ⟨?_, ?_⟩) | (show keepK _ _ _ _ _; refine keepA ?_) | refine own_keep ?_ | refine ap_old ?_))
    · have hsl : sv.l.length = sh.length := by rw [← hm]; simp
      refine call_t (f := 42) [sv.val] t k4 (fun x : NodeV × Bool => x.1.valA) (fun x => nodeD x.1 x.2) _ (by first | exact List.mem_cons_self | exact List.mem_cons_of_mem _ List.mem_cons_self | (repeat (first | exact List.mem_cons_self | apply List.mem_cons_of_mem))) Try.call42 hs hby hk4 (fun R w' h => rest_holds hd (by first | exact h | exact h.1 | exact h.1.1 | exact h.1.1.1 | exact h.1.1.1.1)) (fun R w' b' ht hR hRo => node_any w' b' t k4 ht sv ((shapesD sv).mono hR.1.2 (fun x hx => hRo x hx.1)) ⟨by omega, by omega⟩ hs2 (fun u hu => hso _ (by rw [← hm]; exact List.mem_map.2 ⟨u, hu, rfl⟩))) (fun x k5 hx hk5 => ?_)
      have hxg := hx.good
      rw [hm] at hxg
      (repeat' ((conv => whnf) <;> first | (show leK _ _ _; (refine le_of (by rw [nodeRows_length]; exact Nat.le_refl _) ?_)) | (show roomK _ _ _; (refine room_of (by show (l.length + 1) * 120 ≤ 140737488355328; omega) ?_)) | (show wrapK _ _ _; (first | refine wrap_i64 (by omega) (by omega) ?_ | (show wrapK .i64 (((l.length + 1 : Nat) : Int) - 1) _; refine wrap_i64 (by omega) (by omega) ?_))) | (show Wp _ _ _ _ _ _ _; refine Wp.go tabOk rfl ?_) | (show @cmpK _ _ _; (first | refine cmpY ?_ | refine cmpN ?_ | (refine cmp_both ?_ ?_ <;> intro _))) | (show wrapK _ _ _; refine wrapA ?_) | (show leK _ _ _; refine leA ?_) | (show roomK _ _ _; refine roomA ?_) | (show ltK _ _ _; refine ltA ?_) | (show _ ∧ _; refine ⟨?_, ?_⟩) | (show keepK _ _ _ _ _; refine keepA ?_) | refine own_keep ?_ | refine ap_old ?_))
      exact ⟨(i - 1, k5, l.length + 1, ((l.length + 1 : Nat) : Int) - 1, l ++ [x.1]), [(4, some 7)], ⟨by assumption, by simp, by omega, by omega, madeL_snoc hml hsh (hxg) hso, by omega, by omega⟩, by simp only; omega, rfl, ⟨rfl, rfl, rfl, rfl, trivial⟩, ⟨node_snoc l _, (by first | exact List.mem_cons_self | exact List.mem_cons_of_mem _ List.mem_cons_self | (repeat (first | exact List.mem_cons_self | apply List.mem_cons_of_mem))), (by first | exact List.mem_cons_self | exact List.mem_cons_of_mem _ List.mem_cons_self | (repeat (first | exact List.mem_cons_self | apply List.mem_cons_of_mem))), (by first | exact List.mem_cons_self | exact List.mem_cons_of_mem _ List.mem_cons_self | (repeat (first | exact List.mem_cons_self | apply List.mem_cons_of_mem))), trivial⟩, fun R w' h => ⟨h.1.1.1.1, nodesD_snoc h.1.1.1.2 (unalias hx.alias_ h.1.1.2 h.2)⟩⟩
    · exact ⟨(i - 1, k4, l.length + 1, ((l.length + 1 : Nat) : Int) - 1, l ++ [n1]), [(4, some 7)], ⟨by assumption, by simp, by omega, by omega, madeL_snoc hml hsh (good_input hn1) hso, by omega, by omega⟩, by simp only; omega, rfl, ⟨rfl, rfl, rfl, rfl, trivial⟩, ⟨node_snoc l _, (by first | exact List.mem_cons_self | exact List.mem_cons_of_mem _ List.mem_cons_self | (repeat (first | exact List.mem_cons_self | apply List.mem_cons_of_mem))), (by first | exact List.mem_cons_self | exact List.mem_cons_of_mem _ List.mem_cons_self | (repeat (first | exact List.mem_cons_self | apply List.mem_cons_of_mem))), (by first | exact List.mem_cons_self | exact List.mem_cons_of_mem _ List.mem_cons_self | (repeat (first | exact List.mem_cons_self | apply List.mem_cons_of_mem))), trivial⟩, fun R w' h => ⟨h.1.1.1, nodesD_snoc h.1.1.2 h.2⟩⟩
  · (repeat' ((conv => whnf) <;> first | (show Wp _ _ _ _ _ _ _; refine Wp.go tabOk rfl ?_) | (show @cmpK _ _ _; (first | refine cmpY ?_ | refine cmpN ?_ | (refine cmp_both ?_ ?_ <;> intro _))) | (show wrapK _ _ _; refine wrapA ?_) | (show leK _ _ _; refine leA ?_) | (show roomK _ _ _; refine roomA ?_) | (show ltK _ _ _; refine ltA ?_) | (show _ ∧ _; refine ⟨?_, ?_⟩) | (show keepK _ _ _ _ _; refine keepA ?_) | refine own_keep ?_ | refine ap_old ?_))
    refine call_num (f := 41) [.int .i64 6] t kt _ (by first | exact List.mem_cons_self | exact List.mem_cons_of_mem _ List.mem_cons_self | (repeat (first | exact List.mem_cons_self | apply List.mem_cons_of_mem))) Try.call41 hs hby hkt (fun R w' h => rest_holds hd h.1) (fun w' b' ht => next_any w' b' t kt ht 6 ⟨by decide, by decide⟩) (fun z k4 hz hk4 => ?_)
    (repeat' ((conv => whnf) <;> first | (show Wp _ _ _ _ _ _ _; refine Wp.go tabOk rfl ?_) | (show @cmpK _ _ _; (first | refine cmpY ?_ | refine cmpN ?_ | (refine cmp_both ?_ ?_ <;> intro _))) | (show wrapK _ _ _; refine wrapA ?_) | (show leK _ _ _; refine leA ?_) | (show roomK _ _ _; refine roomA ?_) | (show ltK _ _ _; refine ltA ?_) | (show _ ∧ _; refine ⟨?_, ?_⟩) | (show keepK _ _ _ _ _; refine keepA ?_) | refine own_keep ?_ | refine ap_old ?_))
    · refine call_num (f := 41) [.int .i64 l.length] t k4 _ (by first | exact List.mem_cons_self | exact List.mem_cons_of_mem _ List.mem_cons_self | (repeat (first | exact List.mem_cons_self | apply List.mem_cons_of_mem))) Try.call41 hs hby hk4 (fun R w' h => rest_holds hd h.1) (fun w' b' ht => next_any w' b' t k4 ht l.length ⟨by omega, by omega⟩) (fun o k5 ho hk5 => ?_)
      (repeat' ((conv => whnf) <;> first | (show Wp _ _ _ _ _ _ _; refine Wp.go tabOk rfl ?_) | (show @cmpK _ _ _; (first | refine cmpY ?_ | refine cmpN ?_ | (refine cmp_both ?_ ?_ <;> intro _))) | (show wrapK _ _ _; refine wrapA ?_) | (show leK _ _ _; refine leA ?_) | (show roomK _ _ _; refine roomA ?_) | (show ltK _ _ _; refine ltA ?_) | (show _ ∧ _; refine ⟨?_, ?_⟩) | (show keepK _ _ _ _ _; refine keepA ?_) | refine own_keep ?_ | refine ap_old ?_))
      conv => whnf
      exact ends_graph (by first | exact List.mem_cons_self | exact List.mem_cons_of_mem _ List.mem_cons_self | (repeat (first | exact List.mem_cons_self | apply List.mem_cons_of_mem))) (by first | exact List.mem_cons_self | exact List.mem_cons_of_mem _ List.mem_cons_self | (repeat (first | exact List.mem_cons_self | apply List.mem_cons_of_mem))) (by decide) rfl hk5 hml (by omega) (by have := ho.1; have := ho.2.1; have := ho.2.2; omega) (fun _ _ h => h.1) (fun _ _ h => h.2)
    · conv => whnf
      exact ends_graph (by first | exact List.mem_cons_self | exact List.mem_cons_of_mem _ List.mem_cons_self | (repeat (first | exact List.mem_cons_self | apply List.mem_cons_of_mem))) (by first | exact List.mem_cons_self | exact List.mem_cons_of_mem _ List.mem_cons_self | (repeat (first | exact List.mem_cons_self | apply List.mem_cons_of_mem))) (by decide) rfl hk4 hml (by omega) ⟨ho0, ho1⟩ (fun _ _ h => h.1) (fun _ _ h => h.2)
end Go.Proofs.Ytdmkdogakbipbaa

/- GT -/
namespace Go.Proofs.Ytdmkdogakbipbaa
open Go.SX Go.ChangeShapes Go.WideShapes Go.ChangeAt Go.RowKit
end Go.Proofs.Ytdmkdogakbipbaa

/- HA -/
namespace Go.Proofs.Ytdmkdogakbipbaa
open Go.SX Go.RowKit Go.ChangeShapes Go.WideShapes Go.ChangeAt
theorem call_graph {cx : Cx} {f : FuncId} {H : Heap} {S : Asn} {nx i : Nat} {K : SV → Heap → Asn → Nat → Prop} (t : BytesV) (k : Nat) (hi : (i, Ent.box (cs (tcells t k)) 30) ∈ H) (hf : ∀ ar w, (callFunc f ar).run cx.P w = .ok (.enter f ar) w)
    (hsm : t.bs.length ≤ 1000000) (hby : ∀ x ∈ t.bs, x ≤ 255) (hk : k ≤ t.bs.length) (hS : ∀ R w', S.holds R w' → (bytesD t).holds R w')
    (hc : ∀ w' b, TapeOk w' b t k → Calls cx.P f #[.pointer (some ⟨b, 0, none⟩)] w' (GraphPost w' b t))
    (h : ∀ (l : List NodeV) (out : Int) (k' : Nat), MadeL l → l.length ≤ 8 → 0 ≤ out → out < l.length → K (.agg [.os nx l.length, .c (.int .i64 out)]) ((nx, .rows (nodeRows l) 9 38) :: setH i (.box (cs (tcells t k')) 30) H) (S.and ((nodesD l).past cx.B.w0.heap.size)) (nx + 1)) : callK cx f [.lp i 0 0 0] H S nx K := by
  rw [callK_def]
  refine ⟨hf, fun ρ w hw => ?_⟩
  obtain ⟨R, φ, hwR⟩ := hw
  obtain ⟨b, h1, h2, h3⟩ := hwR.ent _ hi
  simp only at h1 h2
  rw [rfs_cs] at h3
  have hRo : ∀ x, R x → oth w b x := fun x hx => ⟨hwR.ro x hx, fun e => hwR.apart _ hi x ((h2 x).2 e) hx⟩
  have e : SV.rfs ρ [.lp i 0 0 0] = [Value.pointer (some ⟨b, 0, none⟩)] := by
    simp only [SV.rfs, SV.rf, h1, Option.map_some, add_none]
  rw [e]
  refine (hc w b ⟨hsm, hby, (bytesD t).mono (hS R w hwR.asn) hRo, hk, h3⟩).mono ?_
  rintro e w' ⟨l, out, k', l0, F, hml, h8, ho0, ho1, hk', rfl, hs, hb, hF, hent, hD⟩
  have hlt : (Ent.box (cs (tcells t k')) 30).lt nx := fun y hy => lts_cs nx _ y hy
  have h' := hwR.store hi hlt (w' := w') fun G hG => by
    obtain ⟨b', g1, g2, g3⟩ := hG
    obtain rfl : b = b' := by rw [h1] at g1; simpa using g1
    exact ⟨⟨hs.os, hs.tape, hs.output, hs.size, fun y hy hne => hs.block y hy fun e => hne ((g2 y).2 e)⟩, b, g1, g2, by rw [rfs_cs]; exact hb⟩
  have hold : ∀ p ∈ setH i (.box (cs (tcells t k')) 30) H, ∀ x, φ p.1 x → x < w.heap.size := fun q hq x hx => by
    have hk : q.1 ∈ H.map (·.1) := by rw [← keys_setH i (.box (cs (tcells t k')) 30) H]; exact List.mem_map.2 ⟨q, hq, rfl⟩
    obtain ⟨q', hq', e⟩ := List.mem_map.1 hk
    rw [← e] at hx
    exact Ent.size (hwR.ent q' hq') hx
  have ha := h'.add (F := F) (e := .rows (nodeRows l) 9 38) (l := l0) (fun y hy => by simp [Ent.hass] at hy) hent (fun x hx hR => by have := hF x hx; have := hwR.ro x hR; omega) (fun p hp x hx hx' => by have := hF x hx'; have := hold p hp x hx; omega)
  refine ⟨.agg [.os nx l.length, .c (.int .i64 out)], upd ρ nx l0, _, _, nx + 1, by simp [SV.rf, SV.rfs, upd_same], fun j hj => upd_lt hj, Nat.le_succ _, ?_, ?_, h l out k' hml h8 ho0 ho1⟩
  · rw [SV.lt_agg, SV.lts_iff]
    intro v hv
    simp only [List.mem_cons, List.not_mem_nil, or_false] at hv
    rcases hv with rfl | rfl
    · exact SV.lt_os (by omega)
    · exact SV.lt_c _
  · refine ⟨fun y => R y ∨ ((w.heap.size ≤ y ∧ y < w'.heap.size) ∧ ¬ F y), (fun i => if i = nx then F else φ i), ha.os, ha.tape, ha.output, ha.size, ha.pin, fun y hy => hy.elim (ha.ro y) (fun h => h.1.2), ⟨S.stable (fun _ h => .inl h) (fun _ _ => rfl) ha.asn, ?_⟩, ha.key, ha.ent, fun q hq y hy hy' => ?_, ha.sep⟩
    · exact (nodesD l).stable (fun y hy => ⟨.inr hy, Nat.le_trans hwR.size hy.1.1⟩) (fun _ _ => rfl) hD
    · rcases hy' with hy' | hy'
      · exact ha.apart q hq y hy hy'
      · rcases List.mem_cons.1 hq with rfl | hq
        · simp only [if_true] at hy; exact hy'.2 hy
        · have hne : q.1 ≠ nx := by have := (h'.key q hq).1; omega
          simp only [if_neg hne] at hy
          have := hold q hq y hy
          omega
end Go.Proofs.Ytdmkdogakbipbaa

/- JA -/
namespace Go.Proofs.Ytdmkdogakbipbaa
open Go.SX Go.RowKit Go.ChangeShapes Go.WideShapes Go.ChangeAt
end Go.Proofs.Ytdmkdogakbipbaa

/- JB -/
namespace Go.Proofs.Ytdmkdogakbipbaa
open Go.SX Go.RowKit
theorem spansQ_or {sh : List (List Int)} : ∀ {l : List NodeV} {acc : List Sp}, (spansQ sh l acc).1 = 0 ∨ spansQ sh l acc = (5, [])
  | [], acc => .inl rfl
  | n :: r, acc => by
    unfold spansQ
    split
    · exact .inr rfl
    · exact spansQ_or
end Go.Proofs.Ytdmkdogakbipbaa

/- HB -/
namespace Go.Proofs.Ytdmkdogakbipbaa
open Go.SX Go.RowKit Go.ChangeShapes Go.WideShapes Go.ChangeAt
structure BytesV.raw (w : World) (t : BytesV) : Prop where
  rows : RowsI w t.base 1 (bytesR t.bs)
  fits : ∀ x ∈ t.bs, x ≤ 255
theorem addr_plain {w : World} {a : Addr} {v : Value} (h : w.cell? a = some v) : a = ⟨a.block, a.off, none⟩ := by
  obtain ⟨b, o, p⟩ := a
  cases p with
  | none => rfl
  | some x =>
    simp only [World.cell?, Option.isSome_some, if_true] at h
    split at h <;> cases h
theorem bytesD_raw {w : World} {t : BytesV} (h : t.raw w) : (bytesD t).holds (fun b => b < w.heap.size) w := by
  refine ⟨fun r hr => ?_, ?_⟩
  · simp only [bytesR, List.mem_map] at hr
    obtain ⟨x, _, rfl⟩ := hr
    exact ⟨rfl, fun v hv => by simp at hv; subst hv; rfl⟩
  rcases h.rows with h0 | ⟨a, ha, hc⟩
  · exact .inl h0
  · cases hl : t.bs with
    | nil => exact .inl rfl
    | cons x r =>
      have h1 : w.cell? (a.add (0 * 1 + 0)) = some (.int .u8 (x : Int)) := hc 0 [.int .u8 (x : Int)] (by rw [hl]; rfl) 0 _ rfl
      have h2 : a.add (0 * 1 + 0) = a := by simp [Addr.add]
      rw [h2] at h1
      have ea := addr_plain h1
      refine .inr ⟨a.block, a.off, by rw [ha, ← ea], cell_block h1, fun i q hi j v hj => ?_⟩
      have := hc i q (by rw [hl]; exact hi) j v hj
      rw [ea, add_none] at this
      exact this
theorem base_bytes {w w' : World} {R : Nat → Prop} {t : BytesV} (h : t.raw w) (hb : (baseA w).holds R w') : (bytesD t).holds R w' :=
  (bytesD t).stable (fun b hb' => (hb b hb').1) (fun b hb' => (hb b hb').2) (bytesD_raw h)
theorem wf_u8' {x : Int} (h : (Lit.int .u8 x).wf = true) : 0 ≤ x ∧ x ≤ 255 := by
  simp [Lit.wf, IntKind.min, IntKind.max, IntKind.signed, IntKind.bits] at h
  omega
theorem opens_bytes (w : World) : Opens Try.prog w 22 fun cs => ∃ t : BytesV, cs = [t.val] ∧ t.raw w := by
  refine Opens.mono (opens_slice (k := 1) Try.underlying22 (by kernel_rfl) (opens_int Try.underlying5)) ?_
  rintro cs ⟨base, cap, xs, rfl, h1, h2, h3, h4, h5⟩
  obtain ⟨l, rfl, hl⟩ := list_map_of (f := fun (i : Nat) => [Value.int .u8 (i : Int)]) (p := fun i => i ≤ 255) fun r hr => by
    obtain ⟨_, i, hi, rfl⟩ := h2 r hr
    have := wf_u8' hi
    exact ⟨i.toNat, by omega, by rw [show ((i.toNat : Nat) : Int) = i by omega]⟩
  exact ⟨⟨base, cap, l⟩, by simp [BytesV.val], h1, hl⟩

end Go.Proofs.Ytdmkdogakbipbaa

/- JCa -/
namespace Go.Proofs.Ytdmkdogakbipbaa
open Go.SX Go.RowKit
theorem made_check {l : List NodeV} (hml : MadeL l) (h24 : l.length ≤ 24) : ∃ sh, checkR l [] = (0, sh) ∧ ∀ base cap out, 0 ≤ out → out < (l.length : Int) → check ⟨base, cap, l, out⟩ = (0, sh) := by
  obtain ⟨sh, hsh, _⟩ := hml.shapes
  exact ⟨sh, hsh, fun base cap out h0 h1 => check_made hml.one h24 ⟨h0, h1⟩ hsh⟩
theorem made_spans {l : List NodeV} {sh : List (List Int)} (hck : ∀ base cap out, 0 ≤ out → out < (l.length : Int) → check ⟨base, cap, l, out⟩ = (0, sh)) (base : Option Addr) (cap : Nat) (out : Int) (h0 : 0 ≤ out) (h1 : out < l.length) : spansH ⟨base, cap, l, out⟩ = spansQ sh l [] ∧ ∀ inp, valsH ⟨base, cap, l, out⟩ inp = valsQ sh l [] inp := by
  unfold spansH valsH
  rw [hck base cap out h0 h1]
  exact ⟨rfl, fun _ => rfl⟩
end Go.Proofs.Ytdmkdogakbipbaa

/- PK -/
namespace Go.Proofs.Ytdmkdogakbipbaa
open Go.SX Go.RowKit
theorem tidyL_snoc : ∀ {a : List NodeP} {ss : List (List Int)} {x : List NodeP × List Nat} {n : NodeP} {s : List Int}, a.length = ss.length → tidyL (a ++ [n]) (ss ++ [s]) x = stepP s (tidyL a ss x) n
  | [], [], x, n, s, _ => rfl
  | [], _ :: _, _, _, _, h => by simp at h
  | _ :: _, [], _, _, _, h => by simp at h
  | y :: a, t :: ss, x, n, s, h => by
    rw [List.cons_append, List.cons_append]
    unfold tidyL
    exact tidyL_snoc (by simpa using h)
theorem idxP_app {f : NodeP} : ∀ {row : List NodeP} {j : Nat}, idxP f row j = none → idxP f (row ++ [f]) j = some (j + row.length)
  | [], j, _ => by
    show (if sameP f f = true then some j else _) = _
    rw [if_pos (sameP_iff.2 rfl)]; rfl
  | x :: r, j, h => by
    unfold idxP at h
    rw [List.cons_append]
    unfold idxP
    split at h
    · cases h
    · rename_i hx
      rw [if_neg hx, idxP_app h, List.length_cons]
      congr 1; omega
theorem lay_again {row : List NodeP} {f : NodeP} (h1 : f.kind ≠ 1) : layP (layP row f).1 f = layP row f := by
  cases hf : findP row f with
  | some k =>
    have e : layP row f = (row, k) := by unfold layP; rw [hf]
    rw [e]; exact e
  | none =>
    have e : layP row f = (row ++ [f], row.length) := by unfold layP; rw [hf]
    rw [e]
    have hi : idxP f row 0 = none := by unfold findP at hf; rw [if_neg h1] at hf; exact hf
    have : findP (row ++ [f]) f = some row.length := by
      unfold findP
      rw [if_neg h1, idxP_app hi, Nat.zero_add]
    unfold layP
    simp only [this]
theorem fold_app {s : List Int} {row : List NodeP} {f m : NodeP} (h : AheadP m row.length) : foldP s (row ++ [f]) m = foldP s row m := by
  unfold foldP
  rw [known_app h]
  by_cases hk : knownP row m = true
  · rw [if_pos hk, if_pos hk]
    have hk12 : m.kind ≠ 1 ∧ m.kind ≠ 2 := by
      constructor <;> (intro h; unfold knownP at hk; rw [decide_eq_true (by omega)] at hk; simp at hk)
    have ha := h.a1 hk12.1 hk12.2
    unfold numsP
    rw [getD_app ha]
    by_cases h6 : m.kind = 6
    · rw [if_pos h6, if_pos h6, getD_app (h.b1 h6)]
    · rw [if_neg h6, if_neg h6]
  · rw [if_neg hk, if_neg hk]
theorem fold_lay {s : List Int} {row : List NodeP} {f m : NodeP} (h : AheadP m row.length) : foldP s (layP row f).1 m = foldP s row m := by
  unfold layP
  cases findP row f with
  | some k => rfl
  | none => exact fold_app h
theorem lay_lt {row : List NodeP} {f : NodeP} : (layP row f).2 < (layP row f).1.length ∧ row.length ≤ (layP row f).1.length := by
  unfold layP
  cases hf : findP row f with
  | some k => exact ⟨(List.getElem?_eq_some_iff.1 (findP_some hf).2).1, Nat.le_refl _⟩
  | none => simp
theorem ahead_moved {st : List Nat} {n : NodeP} {i r : Nat} (h : AheadP n i) (hs : ∀ k, k < i → st.getD k 0 < r) : AheadP (movedP st n) r := by
  obtain ⟨_, ek, ea, ea2, eb, eb2⟩ := moved_eq st n
  have h0 := h.a0
  have h0b := h.b0
  refine ⟨?_, fun q1 q2 => ?_, fun q => ?_, ?_, fun q => ?_, fun q => ?_, by rw [ek]; exact h.kind⟩
  · by_cases h12 : n.kind = 1 ∨ n.kind = 2
    · rw [ea2 h12]; exact h0
    · rw [ea (by omega) (by omega)]; omega
  · rw [ek] at q1 q2
    rw [ea q1 q2, Int.toNat_natCast]
    exact hs _ (h.a1 q1 q2)
  · rw [ek] at q
    rw [ea2 q]; exact h.a2 q
  · by_cases h6 : n.kind = 6
    · rw [eb h6]; omega
    · rw [eb2 h6]; exact h0b
  · rw [ek] at q
    rw [eb q, Int.toNat_natCast]
    exact hs _ (h.b1 q)
  · rw [ek] at q
    rw [eb2 q]; exact h.b2 q
theorem moved_twice {pl st st2 : List Nat} {n : NodeP} {i : Nat} (h : AheadP n i) (hs : ∀ k, k < i → st2.getD (pl.getD k 0) 0 = st.getD k 0) : movedP st2 (movedP pl n) = movedP st n := by
  by_cases h12 : n.kind = 1 ∨ n.kind = 2
  · have e : ∀ s, movedP s n = n := fun s => by unfold movedP; rw [if_pos h12]
    rw [e, e, e]
  · have ha := hs _ (h.a1 (by omega) (by omega))
    by_cases h6 : n.kind = 6
    · have hb := hs _ (h.b1 h6)
      have e : ∀ s, movedP s n = { n with a := s.getD n.a.toNat 0, b := s.getD n.b.toNat 0 } := fun s => by unfold movedP; rw [if_neg h12, if_pos h6]
      rw [e st, e pl, ← ha, ← hb]
      generalize hm : ({ n with a := (pl.getD n.a.toNat 0 : Nat), b := (pl.getD n.b.toNat 0 : Nat) } : NodeP) = m
      have k1 : m.kind = n.kind := by rw [← hm]
      unfold movedP
      rw [k1, if_neg h12, if_pos h6, ← hm]
      simp only [Int.toNat_natCast]
    · have e : ∀ s, movedP s n = { n with a := s.getD n.a.toNat 0 } := fun s => by unfold movedP; rw [if_neg h12, if_neg h6]
      rw [e st, e pl, ← ha]
      generalize hm : ({ n with a := (pl.getD n.a.toNat 0 : Nat) } : NodeP) = m
      have k1 : m.kind = n.kind := by rw [← hm]
      unfold movedP
      rw [k1, if_neg h12, if_neg h6, ← hm]
      simp only [Int.toNat_natCast]
/-- a node with the places of others that have the same shapes -/
theorem moved_node {pl : List Nat} {n : NodeP} {i : Nat} {sh tsh : List (List Int)} {s : List Int} (h : NodeIn n.toV (sh.take i) s) (hi : (sh.take i).length = i) (hah : AheadP n i) (hp : ∀ k, k < i → pl.getD k 0 < tsh.length ∧ gD tsh (pl.getD k 0) = gD sh k) : NodeIn (movedP pl n).toV tsh s := by
  obtain ⟨e0, ek, ea, ea2, eb, eb2⟩ := moved_eq pl n
  have hf := h.form
  rw [hi] at hf
  have hA : n.kind ≠ 1 → n.kind ≠ 2 → (movedP pl n).a.toNat = pl.getD n.a.toNat 0 := fun h1 h2 => by rw [ea h1 h2]; omega
  have hB : n.kind = 6 → (movedP pl n).b.toNat = pl.getD n.b.toNat 0 := fun h => by rw [eb h]; omega
  refine ⟨?_, ?_, ?_⟩
  · rw [e0]
    refine form_move hf (fun h1 h2 => ?_) (fun h => ?_) (fun h => ?_) (fun h => ?_)
    · have := (hp _ (hah.a1 h1 h2)).1
      rw [ea h1 h2]; omega
    · exact ea2 h
    · have := (hp _ (hah.b1 h)).1
      rw [eb h]; omega
    · exact eb2 h
  · rw [e0, shape_move (sh := sh.take i) (fun h1 h2 => ?_) (fun h => ?_)]
    · exact h.shape
    · show gD tsh (movedP pl n).a.toNat = gD (sh.take i) n.a.toNat
      rw [hA h1 h2, (hp _ (hah.a1 h1 h2)).2, gD_take (hah.a1 h1 h2)]
    · show gD tsh (movedP pl n).b.toNat = gD (sh.take i) n.b.toNat
      rw [hB h, (hp _ (hah.b1 h)).2, gD_take (hah.b1 h)]
  · rw [e0, near_move]; exact h.near
/-- the doubled graph as far as it has come; b: nodes begun -/
structure Dbl (l : List NodeP) (sh : List (List Int)) (i b : Nat) (two : List NodeP) (pl og : List Nat) (tsh : List (List Int)) : Prop where
  chk : checkR (two.map NodeP.toV) [] = (0, tsh)
  lenT : tsh.length = two.length
  lenP : pl.length = i
  lenO : og.length = two.length
  place : ∀ k, k < i → pl.getD k 0 < two.length ∧ og.getD (pl.getD k 0) 0 = k
  orig : ∀ j, j < two.length → og.getD j 0 < b ∧ two[j]? = some (movedP pl (l.getD (og.getD j 0) nilP)) ∧ gD tsh j = gD sh (og.getD j 0)
structure RowIn (l : List NodeP) (sh : List (List Int)) : Prop where
  len : sh.length = l.length
  node : ∀ k, k < l.length → NodeIn (l.getD k nilP).toV (sh.take k) (gD sh k)
theorem RowIn.ahead {l : List NodeP} {sh : List (List Int)} (h : RowIn l sh) {k : Nat} (hk : k < l.length) : AheadP (l.getD k nilP) k := by
  have hf := (h.node k hk).form
  rw [List.length_take, Nat.min_eq_left (by rw [h.len]; omega)] at hf
  exact aheadP_of hf
section
variable {l : List NodeP} {sh : List (List Int)} {i b : Nat} {two : List NodeP} {pl og : List Nat} {tsh : List (List Int)}
theorem Dbl.push (hL : RowIn l sh) (hi : i < l.length) (h : Dbl l sh i b two pl og tsh) (hb : b ≤ i + 1) (hb2 : i ≤ b) : Dbl l sh i (i + 1) (two ++ [movedP pl (l.getD i nilP)]) pl (og ++ [i]) (tsh ++ [gD sh i]) := by
  obtain ⟨h1, h2, h3, h4, h5, h6⟩ := h
  have hah := hL.ahead hi
  have hn := moved_node (pl := pl) (tsh := tsh) (hL.node i hi) (by rw [List.length_take, Nat.min_eq_left (by rw [hL.len]; omega)]) hah (fun k hk => by
    obtain ⟨q1, q2⟩ := h5 k hk
    refine ⟨by omega, ?_⟩
    rw [(h6 _ q1).2.2, q2])
  refine ⟨?_, by simp [h2], h3, by simp [h4], fun k hk => ?_, fun j hj => ?_⟩
  · rw [List.map_append]
    exact checkR_snoc h1 hn.form hn.shape hn.near
  · obtain ⟨q1, q2⟩ := h5 k hk
    exact ⟨by rw [List.length_append]; omega, by rw [getD_old (by omega)]; exact q2⟩
  · rw [List.length_append, List.length_singleton] at hj
    rcases Nat.lt_or_ge j two.length with hlt | hge
    · obtain ⟨q1, q2, q3⟩ := h6 j hlt
      rw [getD_old (by omega), gD_left (by omega), List.getElem?_append_left hlt]
      exact ⟨by omega, q2, q3⟩
    · obtain rfl : j = two.length := by omega
      rw [getD_new h4.symm, gD_last h2.symm, List.getElem?_append_right (Nat.le_refl _), Nat.sub_self]
      exact ⟨by omega, rfl, rfl⟩
theorem Dbl.close (hL : RowIn l sh) (hi : i < l.length) (h : Dbl l sh i (i + 1) two pl og tsh) (h0 : 0 < two.length) (hlast : og.getD (two.length - 1) 0 = i) : Dbl l sh (i + 1) (i + 1) two (pl ++ [two.length - 1]) og tsh := by
  obtain ⟨h1, h2, h3, h4, h5, h6⟩ := h
  refine ⟨h1, h2, by simp [h3], h4, fun k hk => ?_, fun j hj => ?_⟩
  · rcases Nat.lt_or_ge k i with hlt | hge
    · rw [getD_old (by omega)]; exact h5 k hlt
    · obtain rfl : k = i := by omega
      rw [getD_new h3.symm]
      exact ⟨by omega, hlast⟩
  · obtain ⟨q1, q2, q3⟩ := h6 j hj
    refine ⟨q1, ?_, q3⟩
    rw [moved_snoc ((hL.ahead (by omega)).up (by omega))]
    exact q2
theorem dbl_start (l : List NodeP) (sh : List (List Int)) : Dbl l sh 0 0 [] [] [] [] := ⟨rfl, rfl, rfl, rfl, fun k hk => absurd hk (Nat.not_lt_zero _), fun j hj => absurd hj (Nat.not_lt_zero _)⟩
end
/-- tidied alike -/
structure DblT (l : List NodeP) (sh : List (List Int)) (i : Nat) (two : List NodeP) (pl : List Nat) (tsh : List (List Int)) (row : List NodeP) (st st2 : List Nat) : Prop where
  one : tidyL (l.take i) (sh.take i) ([], []) = (row, st)
  dbl : tidyL two tsh ([], []) = (row, st2)
  len : st.length = i
  len2 : st2.length = two.length
  lt : ∀ k, k < i → st.getD k 0 < row.length
  same : ∀ k, k < i → st2.getD (pl.getD k 0) 0 = st.getD k 0
def dstep (x : List NodeP × List Nat) (n : NodeP) : List NodeP × List Nat :=
  (x.1 ++ (if n.kind = 1 then [movedP x.2 n] else [movedP x.2 n, movedP x.2 n]), x.2 ++ [x.1.length + (if n.kind = 1 then 0 else 1)])
def dblP (l : List NodeP) : List NodeP × List Nat := l.foldl dstep ([], [])
theorem take_snoc1 {l : List NodeP} {i : Nat} (h : i < l.length) : l.take (i + 1) = l.take i ++ [l.getD i nilP] := by
  rw [List.take_add_one, List.getD_eq_getElem?_getD, List.getElem?_eq_getElem h]; rfl
theorem dbl_to {l : List NodeP} {sh : List (List Int)} (hL : RowIn l sh) : ∀ i, i ≤ l.length → ∃ og tsh row st st2, Dbl l sh i i (dblP (l.take i)).1 (dblP (l.take i)).2 og tsh ∧ DblT l sh i (dblP (l.take i)).1 (dblP (l.take i)).2 tsh row st st2 ∧ (dblP (l.take i)).1.length ≤ 2 * i
  | 0, _ => ⟨[], [], [], [], [], dbl_start l sh, ⟨rfl, rfl, rfl, rfl, fun k hk => absurd hk (Nat.not_lt_zero _), fun k hk => absurd hk (Nat.not_lt_zero _)⟩, Nat.le_refl _⟩
  | i + 1, hi => by
    obtain ⟨og, tsh, row, st, st2, hD, hT, hfew⟩ := dbl_to hL i (by omega)
    have e : dblP (l.take (i + 1)) = dstep (dblP (l.take i)) (l.getD i nilP) := by
      unfold dblP
      rw [take_snoc1 (by omega), List.foldl_append]; rfl
    rw [e]
    generalize dblP (l.take i) = X at *
    obtain ⟨two, pl⟩ := X
    simp only at hD hT hfew
    have hah := hL.ahead (k := i) (by omega)
    have hone : tidyL (l.take (i + 1)) (sh.take (i + 1)) ([], []) = stepP (gD sh i) (row, st) (l.getD i nilP) := by
      rw [take_snoc1 (by omega), take_snocL (by rw [hL.len]; omega), tidyL_snoc (by rw [List.length_take, List.length_take, hL.len]), hT.one]
    have hD1 := hD.push hL (by omega) (Nat.le_succ _) (Nat.le_refl _)
    have hm := moved_twice hah hT.same
    generalize hn : l.getD i nilP = n at *
    have e1 : tidyL (two ++ [movedP pl n]) (tsh ++ [gD sh i]) ([], []) = ((layP row (foldP (gD sh i) row (movedP st n))).1, st2 ++ [(layP row (foldP (gD sh i) row (movedP st n))).2]) := by
      rw [tidyL_snoc hD.lenT.symm, hT.dbl]
      unfold stepP
      simp only
      rw [hm]
    have hone2 : tidyL (l.take (i + 1)) (sh.take (i + 1)) ([], []) = ((layP row (foldP (gD sh i) row (movedP st n))).1, st ++ [(layP row (foldP (gD sh i) row (movedP st n))).2]) := hone
    have hlay := lay_lt (row := row) (f := foldP (gD sh i) row (movedP st n))
    have hlt : ∀ k, k < i + 1 → (st ++ [(layP row (foldP (gD sh i) row (movedP st n))).2]).getD k 0 < (layP row (foldP (gD sh i) row (movedP st n))).1.length := fun k hk => by
      rcases Nat.lt_or_ge k i with h | h
      · rw [getD_old (by rw [hT.len]; exact h)]
        have := hT.lt k h
        omega
      · rw [getD_new (by rw [hT.len]; omega)]
        exact hlay.1
    have hl2 := hT.len2
    have hl1 := hT.len
    have hlp := hD.lenP
    have hlo := hD.lenO
    by_cases hk : n.kind = 1
    · have ed : dstep (two, pl) n = (two ++ [movedP pl n], pl ++ [(two ++ [movedP pl n]).length - 1]) := by
        unfold dstep
        rw [if_pos hk, if_pos hk, List.length_append, List.length_singleton]
        simp
      rw [ed]
      have hC := hD1.close hL (by omega) (by simp) (by rw [List.length_append, List.length_singleton, Nat.add_sub_cancel, getD_new hlo.symm])
      refine ⟨_, _, _, _, _, hC, ⟨hone2, e1, by simp [hl1], by simp [hl2], hlt, fun k hk => ?_⟩, by simp; omega⟩
      rcases Nat.lt_or_ge k i with h | h
      · rw [getD_old (p := pl) (by omega), getD_old (p := st) (by omega), getD_old (by have := (hD.place k h).1; omega)]
        exact hT.same k h
      · rw [getD_new (p := pl) (by omega), getD_new (p := st) (by omega), getD_new (by simp; omega)]
    · have hfk : (foldP (gD sh i) row (movedP st n)).kind ≠ 1 := fun h => hk (fold_kind.1 h)
      have ham := ahead_moved (st := st) hah hT.lt
      have ed : dstep (two, pl) n = ((two ++ [movedP pl n]) ++ [movedP pl n], pl ++ [((two ++ [movedP pl n]) ++ [movedP pl n]).length - 1]) := by
        unfold dstep
        rw [if_neg hk, if_neg hk]
        simp
      rw [ed]
      have hD2 := hD1.push hL (by omega) (Nat.le_refl _) (Nat.le_succ _)
      rw [hn] at hD2
      have hC := hD2.close hL (by omega) (by simp) (by rw [show ((two ++ [movedP pl n]) ++ [movedP pl n]).length - 1 = (og ++ [i]).length by simp [hlo]]; exact getD_new rfl)
      have hm2 : movedP (st2 ++ [(layP row (foldP (gD sh i) row (movedP st n))).2]) (movedP pl n) = movedP st n := moved_twice hah (fun k hk => by
        rw [getD_old (by have := (hD.place k hk).1; omega)]
        exact hT.same k hk)
      have e2 : tidyL ((two ++ [movedP pl n]) ++ [movedP pl n]) ((tsh ++ [gD sh i]) ++ [gD sh i]) ([], []) = ((layP row (foldP (gD sh i) row (movedP st n))).1, (st2 ++ [(layP row (foldP (gD sh i) row (movedP st n))).2]) ++ [(layP row (foldP (gD sh i) row (movedP st n))).2]) := by
        rw [tidyL_snoc (by simp [hD.lenT]), e1]
        unfold stepP
        simp only
        rw [hm2, fold_lay ham, lay_again hfk]
      refine ⟨_, _, _, _, _, hC, ⟨hone2, e2, by simp [hl1], by simp [hl2], hlt, fun k hk => ?_⟩, by simp; omega⟩
      rcases Nat.lt_or_ge k i with h | h
      · rw [getD_old (p := pl) (by omega), getD_old (p := st) (by omega), getD_old (by have := (hD.place k h).1; rw [List.length_append]; omega), getD_old (by have := (hD.place k h).1; omega)]
        exact hT.same k h
      · rw [getD_new (p := pl) (by omega), getD_new (p := st) (by omega), getD_new (by simp; omega)]
end Go.Proofs.Ytdmkdogakbipbaa

/- PM -/
namespace Go.Proofs.Ytdmkdogakbipbaa
open Go.SX Go.RowKit
theorem span_twin {pl : List Nat} {n : NodeP} {i : Nat} {sh tsh : List (List Int)} {sp tsp : List Sp} (hah : AheadP n i) (hp : ∀ k, k < i → gD tsh (pl.getD k 0) = gD sh k ∧ gS tsp (pl.getD k 0) = gS sp k) (s : List Int) : spanP (movedP pl n) s tsh tsp = spanP n s sh sp := by
  obtain ⟨e0, ek, ea, _, eb, _⟩ := moved_eq pl n
  unfold spanP
  rw [e0, ends_move]
  by_cases h12 : n.kind = 1 ∨ n.kind = 2
  · rw [ends_free (n := n.toV) h12]
  · have ha := hp _ (hah.a1 (by omega) (by omega))
    rw [ea (by omega) (by omega), Int.toNat_natCast, ha.1, ha.2]
    by_cases h6 : n.kind = 6
    · have hb := hp _ (hah.b1 h6)
      rw [eb h6, Int.toNat_natCast, hb.2]
    · rw [ends_freeB (n := n.toV) h6]
theorem rowIn_graph {g : GraphV} (hck : (check g).1 = 0) : RowIn (g.l.map NodeV.pl) (check g).2 := by
  obtain ⟨hl1, hl24, hout, hcl, hin⟩ := check_in hck
  refine ⟨by rw [hcl, List.length_map], fun k hk => ?_⟩
  rw [List.length_map] at hk
  obtain ⟨s, hs, h⟩ := hin k _ (List.getElem?_eq_getElem hk)
  have e1 : gD (check g).2 k = s := by unfold gD; rw [List.getD_eq_getElem?_getD, hs]; rfl
  have e2 : (g.l.map NodeV.pl).getD k nilP = g.l[k].pl := by rw [List.getD_eq_getElem?_getD, List.getElem?_map, List.getElem?_eq_getElem hk]; rfl
  rw [e1, e2]
  exact ⟨by rw [form_pl]; exact h.form, h.shape, by rw [near_pl]; exact h.near⟩
section
variable {l : List NodeP} {sh : List (List Int)} {two : List NodeP} {pl og : List Nat} {tsh : List (List Int)}
theorem getD_mapN {α : Type} {f : Nat → α} {d : α} {og : List Nat} {j : Nat} (hj : j < og.length) : (og.map f).getD j d = f (og.getD j 0) := by
  rw [List.getD_eq_getElem?_getD, List.getElem?_map, List.getD_eq_getElem?_getD, List.getElem?_eq_getElem hj]; rfl
theorem Dbl.placeS (h : Dbl l sh l.length l.length two pl og tsh) {k : Nat} (hk : k < l.length) : gD tsh (pl.getD k 0) = gD sh k := by
  obtain ⟨q1, q2⟩ := h.place k hk
  rw [(h.orig _ q1).2.2, q2]
theorem Dbl.to (hL : RowIn l sh) (h : Dbl l sh l.length l.length two pl og tsh) {sp : List Sp} (hR : RowOk l sh sp) (hp : ∀ q ∈ tsh, 0 < entries q) (hN : RowIn two tsh) : RowOk two tsh (og.map fun k => gS sp k) := by
  refine ⟨h.lenT, by rw [List.length_map, h.lenO], hp, fun j p hj => ?_, fun j p hj => ?_⟩
  · have hjl := (List.getElem?_eq_some_iff.1 hj).1
    have := hN.node j hjl
    rw [List.getD_eq_getElem?_getD, hj] at this
    exact this
  · have hjl := (List.getElem?_eq_some_iff.1 hj).1
    obtain ⟨q1, q2, q3⟩ := h.orig j hjl
    rw [hj] at q2
    simp only [Option.some.injEq] at q2
    subst q2
    have hjo : j < og.length := by rw [h.lenO]; exact hjl
    have e1 : gS (og.map fun k => gS sp k) j = gS sp (og.getD j 0) := getD_mapN hjo
    obtain ⟨r1, r2⟩ := hR.span _ _ (getD_some q1)
    have e2 := span_twin (pl := pl) (tsh := tsh) (tsp := og.map fun k => gS sp k) (sh := sh) (sp := sp) (hL.ahead q1) (fun k hk => ⟨h.placeS (by omega), by
      obtain ⟨p1, p2⟩ := h.place k (by omega)
      show (og.map fun k => gS sp k).getD (pl.getD k 0) (0, 0) = _
      rw [getD_mapN (by rw [h.lenO]; exact p1), p2]⟩) (gD tsh j)
    rw [e1, e2, q3]
    exact ⟨r1, r2⟩
theorem Dbl.from (hL : RowIn l sh) (h : Dbl l sh l.length l.length two pl og tsh) {tsp : List Sp} (hR : RowOk two tsh tsp) (hp : ∀ q ∈ sh, 0 < entries q) : RowOk l sh ((List.range l.length).map fun k => gS tsp (pl.getD k 0)) := by
  have eS : ∀ k, k < l.length → gS ((List.range l.length).map fun k => gS tsp (pl.getD k 0)) k = gS tsp (pl.getD k 0) := fun k hk => by
    have := getD_mapN (f := fun k => gS tsp (pl.getD k 0)) (d := (0, 0)) (og := List.range l.length) (j := k) (by rw [List.length_range]; exact hk)
    rw [show (List.range l.length).getD k 0 = k by rw [List.getD_eq_getElem?_getD, List.getElem?_range hk]; rfl] at this
    exact this
  refine ⟨hL.len, by rw [List.length_map, List.length_range], hp, fun j p hj => ?_, fun k p hk => ?_⟩
  · have hjl := (List.getElem?_eq_some_iff.1 hj).1
    have := hL.node j hjl
    rw [List.getD_eq_getElem?_getD, hj] at this
    exact this
  · have hkl := (List.getElem?_eq_some_iff.1 hk).1
    obtain ⟨q1, q2⟩ := h.place k hkl
    obtain ⟨o1, o2, o3⟩ := h.orig _ q1
    rw [q2] at o2 o3
    have ep : l.getD k nilP = p := by rw [List.getD_eq_getElem?_getD, hk]; rfl
    rw [ep] at o2
    obtain ⟨r1, r2⟩ := hR.span _ _ o2
    have hah := hL.ahead hkl
    rw [ep] at hah
    have e2 := span_twin (pl := pl) (tsh := tsh) (tsp := tsp) (sh := sh) (sp := (List.range l.length).map fun k => gS tsp (pl.getD k 0)) hah (fun j hj => ⟨h.placeS (by omega), (eS j (by omega)).symm⟩) (gD tsh (pl.getD k 0))
    rw [eS k hkl, ← o3, ← e2]
    exact ⟨r1, r2⟩
end
theorem dbl_graph {g two : GraphV} (hck : (check g).1 = 0) (h12 : g.l.length ≤ 12) (e : two.l.map NodeV.pl = (dblP (g.l.map NodeV.pl)).1) (ho : two.out = ((dblP (g.l.map NodeV.pl)).2.getD g.out.toNat 0 : Nat)) : (spansH two).1 = (spansH g).1 ∧ ((spansH g).1 = 0 → tidyP (two.l.map NodeV.pl) (check two).2 two.out.toNat = tidyP (g.l.map NodeV.pl) (check g).2 g.out.toNat) := by
  obtain ⟨hl1, hl24, hout, hcl, hin⟩ := check_in hck
  have hL := rowIn_graph hck
  obtain ⟨og, tsh, row, st, st2, hD, hT, hfew⟩ := dbl_to hL (g.l.map NodeV.pl).length (Nat.le_refl _)
  rw [List.take_of_length_le (Nat.le_refl _)] at hD hT hfew
  have hT1 := hT.one
  rw [List.take_of_length_le (Nat.le_refl _), List.take_of_length_le (by rw [hcl, List.length_map]; exact Nat.le_refl _)] at hT1
  have hT2 := hT.dbl
  have hon : g.out.toNat < (g.l.map NodeV.pl).length := by rw [List.length_map]; omega
  have hpo := hD.place _ hon
  have hsame := hT.same _ hon
  rw [List.length_map] at hfew
  have h0sp := shapes_pos hck
  have hg1 : (g.l.map NodeV.pl).length = g.l.length := List.length_map _
  rw [← e] at hD hT2 hfew hpo
  generalize (dblP (g.l.map NodeV.pl)).2 = pl at *
  have h2l : (two.l.map NodeV.pl).length = two.l.length := List.length_map _
  have hck2 : check two = (0, tsh) := by
    unfold check
    rw [if_neg (by omega), checkR_pl (m := (two.l.map NodeV.pl).map NodeP.toV) [] (by rw [List.map_map, List.map_map]; rfl)]
    exact hD.chk
  have hck20 : (check two).1 = 0 := by rw [hck2]
  have hL2 := rowIn_graph hck20
  have hp2 := shapes_pos hck20
  rw [hck2] at hL2 hp2
  refine ⟨?_, fun _ => ?_⟩
  · by_cases hs : (spansH g).1 = 0
    · have hR := hD.to hL (rowOk_graph hs) hp2 hL2
      rw [hR.spans (by omega) rfl (by omega) (by omega), hs]
    · by_cases hs2 : (spansH two).1 = 0
      · have hR2 := rowOk_graph hs2
        rw [hck2] at hR2
        have hR := hD.from hL hR2 h0sp
        exact absurd (by rw [hR.spans (by omega) rfl (by omega) (by omega)]) hs
      · have h5 : ∀ h : GraphV, (check h).1 = 0 → (spansH h).1 ≠ 0 → (spansH h).1 = 5 := fun h hc hn => by
          unfold spansH at hn ⊢
          rw [if_neg (by omega)] at hn ⊢
          rw [spansQ_or.resolve_left hn]
        rw [h5 g hck hs, h5 two hck20 hs2]
  · unfold tidyP
    rw [hck2, hT1, hT2]
    have e3 : two.out.toNat = pl.getD g.out.toNat 0 := by omega
    simp only
    rw [e3, hsame]
end Go.Proofs.Ytdmkdogakbipbaa

/- PI -/
namespace Go.Proofs.Ytdmkdogakbipbaa
open Go.SX Go.RowKit
theorem tidied_few {g : GraphV} (hsp : (spansH g).1 = 0) : (tidyP (g.l.map NodeV.pl) (check g).2 g.out.toNat).1.length ≤ g.l.length ∧ (tidyP (g.l.map NodeV.pl) (check g).2 g.out.toNat).2 < (tidyP (g.l.map NodeV.pl) (check g).2 g.out.toNat).1.length := by
  obtain ⟨hck, _, _⟩ := spansH_in hsp
  obtain ⟨hl1, hl24, hout, hcl, hin⟩ := check_in hck
  obtain ⟨rsh, rsp, hR, h2, h3, _⟩ := tidyP_again (rowOk_graph hsp) (out := g.out.toNat) (by rw [List.length_map]; omega)
  rw [List.length_map] at h3
  exact ⟨h3, h2⟩
end Go.Proofs.Ytdmkdogakbipbaa

/- NP -/
namespace Go.Proofs.Ytdmkdogakbipbaa
open Go.SX Go.RowKit
end Go.Proofs.Ytdmkdogakbipbaa

/- NQ -/
namespace Go.Proofs.Ytdmkdogakbipbaa
open Go.SX Go.RowKit
end Go.Proofs.Ytdmkdogakbipbaa

/- JE -/
namespace Go.Proofs.Ytdmkdogakbipbaa
open Go.SX Go.RowKit
def setT (r : List Int) (t : Sp) : List Int := r.set t.2.toNat t.1
end Go.Proofs.Ytdmkdogakbipbaa

/- JF -/
namespace Go.Proofs.Ytdmkdogakbipbaa
open Go.SX Go.RowKit
def matRow (n : NodeV) (tl : List Int) (o : Nat) : List Int :=
  if n.kind = 3 then (n.data.xs.drop (o * (entries tl).toNat)).take (entries tl).toNat else (termsG n tl o).foldl setT (List.replicate (entries tl).toNat 0)
def matRows (n : NodeV) (tl : List Int) (cnt : Nat) : List (List Int) := (List.range cnt).map (matRow n tl)
def matBias (n : NodeV) (cnt : Nat) : List Int := (List.range cnt).map (biasI n cnt)
end Go.Proofs.Ytdmkdogakbipbaa

/- JG -/
namespace Go.Proofs.Ytdmkdogakbipbaa
open Go.SX Go.RowKit
/-- what Matrix hands back -/
structure MatV where
  rows : ShapesV
  bias : IntsV
  own : Bool
def MatV.val (x : MatV) : Value := .tuple #[x.rows.val, x.bias.val]
structure MatIs (n : NodeV) (tl : List Int) (cnt : Nat) (x : MatV) : Prop where
  rows : x.rows.l.map IntsV.xs = matRows n tl cnt
  bias : x.bias.xs = matBias n cnt
  sane : ∀ u ∈ x.rows.l, u.sane
  biasSane : x.bias.sane
  old : x.own = false → x.bias = n.bias ∧ ∀ w, n.data.ok w → ∀ u ∈ x.rows.l, u.ok w
end Go.Proofs.Ytdmkdogakbipbaa

/- JH -/
namespace Go.Proofs.Ytdmkdogakbipbaa
open Go.SX Go.RowKit
end Go.Proofs.Ytdmkdogakbipbaa

/- JI -/
namespace Go.Proofs.Ytdmkdogakbipbaa
open Go.SX Go.RowKit
/-- rows so far -/
structure Sofar3 (n : NodeV) (tl : List Int) (us : List IntsV) (o : Nat) : Prop where
  rows : us.map IntsV.xs = (List.range o).map (matRow n tl)
  sane : ∀ u ∈ us, u.sane
theorem Sofar3.len {n : NodeV} {tl : List Int} {us : List IntsV} {o : Nat} (h : Sofar3 n tl us o) : us.length = o := by
  have := congrArg List.length h.rows
  simpa using this
theorem Sofar3.next {n : NodeV} {tl : List Int} {us : List IntsV} {o : Nat} {u : IntsV} (h : Sofar3 n tl us o) (hu : u.sane) (hx : u.xs = matRow n tl o) : Sofar3 n tl (us ++ [u]) (o + 1) := by
  refine ⟨by rw [List.map_append, h.rows, List.range_succ, List.map_append, List.map_cons, List.map_nil, List.map_cons, List.map_nil, hx], fun v hv => ?_⟩
  rcases List.mem_append.1 hv with hv | hv
  · exact h.sane v hv
  · rw [List.mem_singleton.1 hv]; exact hu
end Go.Proofs.Ytdmkdogakbipbaa

/- JJ -/
namespace Go.Proofs.Ytdmkdogakbipbaa
open Go.SX Go.RowKit
end Go.Proofs.Ytdmkdogakbipbaa

/- JK -/
namespace Go.Proofs.Ytdmkdogakbipbaa
open Go.SX Go.RowKit
structure SofarC (n : NodeV) (tl : List Int) (cnt : Nat) (us : List IntsV) (bs : List Int) (m : Nat) : Prop where
  rows : Sofar3 n tl us m
  bias : bs = (List.range m).map (biasI n cnt)
theorem SofarC.next {n : NodeV} {tl : List Int} {cnt : Nat} {us : List IntsV} {bs : List Int} {m : Nat} {u : IntsV} {b : Int} (h : SofarC n tl cnt us bs m) (hu : u.sane) (hx : u.xs = matRow n tl m) (hb : biasI n cnt m = b) : SofarC n tl cnt (us ++ [u]) (bs ++ [b]) (m + 1) :=
  ⟨h.rows.next hu hx, by rw [h.bias, ← hb, List.range_succ, List.map_append]; rfl⟩
end Go.Proofs.Ytdmkdogakbipbaa

/- JL -/
namespace Go.Proofs.Ytdmkdogakbipbaa
open Go.SX Go.RowKit
end Go.Proofs.Ytdmkdogakbipbaa

/- JM -/
namespace Go.Proofs.Ytdmkdogakbipbaa
open Go.SX Go.RowKit
end Go.Proofs.Ytdmkdogakbipbaa

/- JN -/
namespace Go.Proofs.Ytdmkdogakbipbaa
open Go.SX Go.RowKit
end Go.Proofs.Ytdmkdogakbipbaa

/- JO -/
namespace Go.Proofs.Ytdmkdogakbipbaa
open Go.SX Go.RowKit
theorem MatIs.row {n : NodeV} {tl : List Int} {cnt : Nat} {x : MatV} (h : MatIs n tl cnt x) {o : Nat} (ho : o < x.rows.l.length) : x.rows.l.length = cnt ∧ x.rows.l[o].xs = matRow n tl o ∧ x.bias.xs.length = cnt ∧ x.bias.xs.getD o 0 = biasI n cnt o := by
  have h1 : x.rows.l.length = cnt := by
    have := congrArg List.length h.rows
    simpa [matRows] using this
  have h2 : (x.rows.l.map IntsV.xs)[o]? = ((List.range cnt).map (matRow n tl))[o]? := by rw [h.rows]; rfl
  rw [List.getElem?_map, List.getElem?_eq_getElem ho, List.getElem?_map, List.getElem?_range (by omega)] at h2
  have h3 : x.bias.xs.length = cnt := by rw [h.bias]; simp [matBias]
  refine ⟨h1, by simpa using h2, h3, ?_⟩
  rw [h.bias, matBias, List.getD_eq_getElem?_getD, List.getElem?_map, List.getElem?_range (by omega)]; rfl
theorem MatIs.count {n : NodeV} {tl : List Int} {cnt : Nat} {x : MatV} (h : MatIs n tl cnt x) : x.rows.l.length = cnt := by
  have := congrArg List.length h.rows
  simpa [matRows] using this
end Go.Proofs.Ytdmkdogakbipbaa

/- JP -/
namespace Go.Proofs.Ytdmkdogakbipbaa
open Go.SX Go.RowKit
end Go.Proofs.Ytdmkdogakbipbaa

/- JQ -/
namespace Go.Proofs.Ytdmkdogakbipbaa
open Go.SX Go.RowKit
end Go.Proofs.Ytdmkdogakbipbaa

/- JV -/
namespace Go.Proofs.Ytdmkdogakbipbaa
open Go.SX Go.RowKit
end Go.Proofs.Ytdmkdogakbipbaa

/- JR -/
namespace Go.Proofs.Ytdmkdogakbipbaa
open Go.SX Go.RowKit
end Go.Proofs.Ytdmkdogakbipbaa

/- JW -/
namespace Go.Proofs.Ytdmkdogakbipbaa
open Go.SX Go.RowKit
end Go.Proofs.Ytdmkdogakbipbaa

/- JS -/
namespace Go.Proofs.Ytdmkdogakbipbaa
open Go.SX Go.RowKit
end Go.Proofs.Ytdmkdogakbipbaa

/- JX -/
namespace Go.Proofs.Ytdmkdogakbipbaa
open Go.SX Go.RowKit
abbrev Mix := IntsV × Bool
def mixA (N : Nat) (l : List Mix) : Asn where
  holds R w := ∀ p ∈ l, p.2 = false → (newA N p.1).holds R w
  stable := fun hR hw h p hp e => (newA N p.1).stable hR hw (h p hp e)
structure MixIn (src : List IntsV) (l : List Mix) : Prop where
  sane : ∀ p ∈ l, p.1.sane
  old : ∀ p ∈ l, p.2 = true → p.1 ∈ src
theorem MixIn.ok {src : List IntsV} {w w' : World} {R : Nat → Prop} {N : Nat} {l : List Mix} (h : MixIn src l) (hs : ∀ u ∈ src, u.ok w) (hb : (baseA w).holds R w') (hm : (mixA N l).holds R w') : ∀ u ∈ l.map Prod.fst, u.ok w' := fun u hu => by
  obtain ⟨p, hp, rfl⟩ := List.mem_map.1 hu
  cases e : p.2 with
  | true => exact (hs _ (h.old p hp e)).later hb
  | false => exact intsA_ok (h.sane p hp) ((intsA p.1).mono (hm p hp e) (fun b hb => hb.1))
theorem MixIn.snoc {src : List IntsV} {l : List Mix} {p : Mix} (h : MixIn src l) (hs : p.1.sane) (ho : p.2 = true → p.1 ∈ src) : MixIn src (l ++ [p]) := by
  refine ⟨fun q hq => ?_, fun q hq => ?_⟩
  · rcases List.mem_append.1 hq with hq | hq
    · exact h.sane q hq
    · rw [List.mem_singleton.1 hq]; exact hs
  · rcases List.mem_append.1 hq with hq | hq
    · exact h.old q hq
    · rw [List.mem_singleton.1 hq]; exact ho
end Go.Proofs.Ytdmkdogakbipbaa

/- NR -/
namespace Go.Proofs.Ytdmkdogakbipbaa
open Go.SX Go.RowKit
end Go.Proofs.Ytdmkdogakbipbaa

/- NS -/
namespace Go.Proofs.Ytdmkdogakbipbaa
open Go.SX Go.RowKit
section
variable {P : IntsV → Prop} {N : Nat}
end
end Go.Proofs.Ytdmkdogakbipbaa

/- NT -/
namespace Go.Proofs.Ytdmkdogakbipbaa
open Go.SX Go.RowKit
end Go.Proofs.Ytdmkdogakbipbaa

/- NU -/
namespace Go.Proofs.Ytdmkdogakbipbaa
open Go.SX Go.RowKit
end Go.Proofs.Ytdmkdogakbipbaa

/- NV -/
namespace Go.Proofs.Ytdmkdogakbipbaa
open Go.SX Go.RowKit
structure RegW (cx : Cx) (ops : Array Oper) (l : List Oper) (env : Env) (H : Heap) (S : Asn) (nx : Nat) (K : Env → Heap → Asn → Nat → Prop) : Prop where
  out : ∀ ρ a w (Q : Exit → Act → World → Prop), Sat cx.n ρ nx env a → Abs cx.B ρ nx H S w →
    (∀ ρ' a' env' H' S' nx' w', (∀ i, i < nx → ρ' i = ρ i) → nx ≤ nx' → Sat cx.n ρ' nx' env' a' → Abs cx.B ρ' nx' H' S' w' → K env' H' S' nx' → Q .normal a' w') → wpList cx.P ops Q l a w
def regKW (cx : Cx) (ops : Array Oper) : Nat → List Oper → Env → Heap → Asn → Nat → (Env → Heap → Asn → Nat → Prop) → Prop
  | 0, l, env, H, S, nx, K => RegW cx ops l env H S nx K
  | _ + 1, [], env, H, S, nx, K => K env H S nx
  | n + 1, o :: r, env, H, S, nx, K => guardK cx.n ops.toList o.guard env (fun b => match b with
    | true => opE cx o.op env H S nx (fun v H' S' nx' => putEK env o.dst v fun env' => regKW cx ops n r env' H' S' nx' K)
    | false => putEK env o.dst (.c undef) fun env' => regKW cx ops n r env' H S nx K)
section
variable {cx : Cx} (hok : ∀ p ∈ cx.tab, mkTI cx.P p.1 = some p.2)
include hok in
theorem regKW_sound {ops : Array Oper} : ∀ {n : Nat} {l : List Oper} {env : Env} {H : Heap} {S : Asn} {nx : Nat} {K : Env → Heap → Asn → Nat → Prop}, regKW cx ops n l env H S nx K → RegW cx ops l env H S nx K
  | 0, l, env, H, S, nx, K, h => h
  | n + 1, [], env, H, S, nx, K, h => ⟨fun ρ a w Q hs hw hq => hq ρ a env H S nx w (fun _ _ => rfl) (Nat.le_refl _) hs hw h⟩
  | n + 1, o :: r, env, H, S, nx, K, h => by
    refine ⟨fun ρ a w Q hs hw hq => ?_⟩
    unfold regKW at h
    have h := guardK_spec hs h
    unfold wpList
    cases hwt : Region.wanted o (yielded ops a.tmps) with
    | true =>
      rw [hwt] at h
      dsimp only at h
      rw [if_pos rfl]
      refine .inl (opE_sound hok h hs hw ?_)
      intro v ρ' H' S' nx' w' h1 h2 h3 h4 h5
      rw [putEK_eq] at h5
      refine (regKW_sound h5).out _ _ _ _ (hs.put h1 h2 h3) h4 ?_
      intro ρ'' a'' env'' H'' S'' nx'' w'' g1 g2 g4 g5 g6
      exact hq ρ'' a'' env'' H'' S'' nx'' w'' (fun i hi => (g1 i (Nat.lt_of_lt_of_le hi h2)).trans (h1 i hi)) (Nat.le_trans h2 g2) g4 g5 g6
    | false =>
      rw [hwt] at h
      dsimp only at h
      rw [if_neg (by simp)]
      have hp := hs.put (ρ' := ρ) (nx' := nx) (d := o.dst) (v := .c undef) (fun _ _ => rfl) (Nat.le_refl _) (SV.lt_c _)
      rw [putEK_eq] at h
      refine (regKW_sound h).out _ _ _ _ hp hw ?_
      intro ρ'' a'' env'' H'' S'' nx'' w'' g1 g2 g4 g5 g6
      exact hq ρ'' a'' env'' H'' S'' nx'' w'' g1 g2 g4 g5 g6
include hok in
theorem RegW.go {ops : Array Oper} {l : List Oper} {env : Env} {H : Heap} {S : Asn} {nx : Nat} {K : Env → Heap → Asn → Nat → Prop} (n : Nat) (h : regKW cx ops n l env H S nx K) : RegW cx ops l env H S nx K := regKW_sound hok h
end
def dataO (us : List IntsV) (ex : Bool) : Own where
  holds _ F w := (∀ x, F x → ∃ u ∈ us, u.xs ≠ [] ∧ ∃ off, u.base = some ⟨x, off, none⟩) ∧
    ∀ u ∈ us, u.xs = [] ∨ ∃ b off c, u.base = some ⟨b, off, none⟩ ∧ F b ∧ w.heap[b]? = some (.cells c 3 (0, 0)) ∧ off + u.xs.length ≤ c.size ∧ ∀ i, i < u.xs.length → ∃ v : Int, c[off + i]? = some (.int .i64 v) ∧ (ex = true → u.xs[i]? = some v)
  stable := by
    rintro l F w w' hw ⟨h1, h2⟩
    refine ⟨h1, fun u hu => ?_⟩
    rcases h2 u hu with h | ⟨b, off, c, g1, g2, g3, g4⟩
    · exact .inl h
    · exact .inr ⟨b, off, c, g1, g2, (hw b g2).trans g3, g4⟩
  lt := by
    rintro l F w x ⟨h1, h2⟩ hx
    obtain ⟨u, hu, hne, off, hb⟩ := h1 x hx
    rcases h2 u hu with h | ⟨b, off', c, g1, g2, g3, g4⟩
    · exact absurd h hne
    · rw [hb] at g1
      simp only [Option.some.injEq, Addr.mk.injEq, and_true] at g1
      obtain ⟨rfl, rfl⟩ := g1
      exact (Array.getElem?_eq_some_iff.1 g3).1
theorem data_rows {us : List IntsV} {F : Nat → Prop} {w : World} {l : SX.Loc} (h : (dataO us true).holds l F w) {u : IntsV} (hu : u ∈ us) : RowsI w u.base 1 (ints u.xs) := by
  rcases h.2 u hu with h | ⟨b, off, c, g1, g2, g3, g4, g5⟩
  · left; rw [h]; rfl
  · refine .inr ⟨_, g1, fun i r hi j v hj => ?_⟩
    have hil : i < u.xs.length := by have := (List.getElem?_eq_some_iff.1 hi).1; rwa [ints_length] at this
    rw [ints_get hil] at hi
    simp only [Option.some.injEq] at hi
    subst hi
    cases j with
    | zero =>
      simp only [List.getElem?_cons_zero, Option.some.injEq] at hj
      subst hj
      obtain ⟨v, h1, h2⟩ := g5 i hil
      have e := h2 rfl
      rw [List.getElem?_eq_getElem hil, Option.some.injEq] at e
      subst e
      rw [add_none]
      simp [World.cell?, g3, h1]
    | succ j => simp at hj
end Go.Proofs.Ytdmkdogakbipbaa

/- NW -/
namespace Go.Proofs.Ytdmkdogakbipbaa
open Go.SX Go.RowKit
def partsL (l : List NodeV) : List IntsV := l.flatMap fun n => [n.shape, n.data, n.bias]
theorem parts_in {l : List NodeV} {n : NodeV} (h : n ∈ l) : n.shape ∈ partsL l ∧ n.data ∈ partsL l ∧ n.bias ∈ partsL l := by
  unfold partsL
  simp only [List.mem_flatMap]
  exact ⟨⟨n, h, by simp⟩, ⟨n, h, by simp⟩, ⟨n, h, by simp⟩⟩
theorem parts_data {l : List NodeV} {F : Nat → Prop} {w : World} {lo : SX.Loc} (hl : ∀ n ∈ l, (nodeT n).holds F w) : (dataO (partsL l) true).holds lo (fun x => ∃ u ∈ partsL l, u.xs ≠ [] ∧ ∃ off, u.base = some ⟨x, off, none⟩) w := by
  refine ⟨fun x hx => hx, fun u hu => ?_⟩
  unfold partsL at hu
  simp only [List.mem_flatMap, List.mem_cons, List.not_mem_nil, or_false] at hu
  obtain ⟨n, hn, hu'⟩ := hu
  have hT : (intsT u).holds F w := by
    have h := hl n hn
    rcases hu' with rfl | rfl | rfl
    · exact h.1
    · exact h.2.1
    · exact h.2.2
  have hm : u ∈ partsL l := by
    rcases hu' with rfl | rfl | rfl
    · exact (parts_in hn).1
    · exact (parts_in hn).2.1
    · exact (parts_in hn).2.2
  by_cases h0 : u.xs = []
  · exact .inl h0
  rcases hT with h | ⟨b, off, c, h1, h2, h3, h4, h5⟩
  · exact .inl h
  · refine .inr ⟨b, off, c, h1, ⟨u, hm, h0, off, h1⟩, h3, h4, fun i hi => ⟨u.xs[i], h5 i _ (List.getElem?_eq_getElem hi), fun _ => List.getElem?_eq_getElem hi⟩⟩
theorem parts_F {l : List NodeV} {F : Nat → Prop} {w : World} (hl : ∀ n ∈ l, (nodeT n).holds F w) {x : Nat} (h : ∃ u ∈ partsL l, u.xs ≠ [] ∧ ∃ off, u.base = some ⟨x, off, none⟩) : F x := by
  obtain ⟨u, hu, h0, off, hb⟩ := h
  unfold partsL at hu
  simp only [List.mem_flatMap, List.mem_cons, List.not_mem_nil, or_false] at hu
  obtain ⟨n, hn, hu'⟩ := hu
  have hT : (intsT u).holds F w := by
    have h := hl n hn
    rcases hu' with rfl | rfl | rfl
    · exact h.1
    · exact h.2.1
    · exact h.2.2
  rcases hT with h | ⟨b, off', c, h1, h2, _⟩
  · exact absurd h h0
  · rw [hb] at h1
    simp only [Option.some.injEq, Addr.mk.injEq, and_true] at h1
    obtain ⟨rfl, rfl⟩ := h1
    exact h2
/-- tidied: its numbers one's own -/
theorem call_tidyW {cx : Cx} {f : FuncId} {args : List SV} {H : Heap} {S : Asn} {nx : Nat} {K : SV → Heap → Asn → Nat → Prop} (r : Int) (x : List NodeP × Nat) (hf : ∀ ar w, (callFunc f ar).run cx.P w = .ok (.enter f ar) w)
    (hc : ∀ ρ w', Abs cx.B ρ nx H S w' → Calls cx.P f (SV.rfs ρ args).toArray w' (TidyPost w' r x))
    (h0 : r ≠ 0 → K (.c (.tuple #[.agg #[.slice none 0 0, .int .i64 0], .int .i64 r])) H S nx)
    (h1 : r = 0 → ∀ (l : List NodeV) (base : Option Addr) (cap : Nat), l.map NodeV.pl = x.1 → KeptOk l → K (.c (.tuple #[.agg #[.slice base l.length cap, .int .i64 x.2], .int .i64 0])) ((nx, .ext (dataO (partsL l) true)) :: H) (S.and ((rowsA base 9 (nodeRows l)).past cx.B.w0.heap.size)) (nx + 1)) : callK cx f args H S nx K := by
  rw [callK_def]
  refine ⟨hf, fun ρ w hw => (hc ρ w hw).mono ?_⟩
  rintro e w' (⟨hr, rfl, he⟩ | ⟨hr, l, base, cap, hx, hko, hcap, rfl, he, F, G, hF, hG, hFG, hn, hrow⟩)
  · exact ⟨.c (.tuple #[.agg #[.slice none 0 0, .int .i64 0], .int .i64 r]), ρ, H, S, nx, rfl, fun _ _ => rfl, Nat.le_refl _, SV.lt_c _, hw.ext he, h0 hr⟩
  · obtain ⟨R, φ, hwR⟩ := hw
    have hwR' := hwR.step (Step.of_ext he) (fun _ _ h => h) (fun _ _ _ _ h => h)
    have hG2 : AbsR cx.B (fun b => R b ∨ G b) φ ρ nx H (S.and ((rowsA base 9 (nodeRows l)).past cx.B.w0.heap.size)) w' := by
      refine ⟨hwR'.os, hwR'.tape, hwR'.output, hwR'.size, hwR'.pin, fun b hb => hb.elim (hwR'.ro b) (fun h => (hG b h).2), ⟨S.stable (fun _ h => .inl h) (fun _ _ => rfl) hwR'.asn, ?_⟩, hwR'.key, hwR'.ent, fun p hp b hb hb' => ?_, hwR'.sep⟩
      · exact (rowsA base 9 (nodeRows l)).stable (fun b hb => ⟨.inr hb, Nat.le_trans hwR.size (hG b hb).1⟩) (fun _ _ => rfl) hrow
      · rcases hb' with hb' | hb'
        · exact hwR'.apart p hp b hb hb'
        · have := Ent.size (hwR.ent p hp) hb
          have := (hG b hb').1
          omega
    refine ⟨.c (.tuple #[.agg #[.slice base l.length cap, .int .i64 x.2], .int .i64 0]), upd ρ nx ⟨none, 0⟩, _, _, nx + 1, rfl, fun i hi => upd_lt hi, Nat.le_succ _, SV.lt_c _, ?_, h1 hr l base cap hx hko⟩
    refine ⟨_, _, hG2.add (e := .ext (dataO (partsL l) true)) (l := ⟨none, 0⟩) (F := fun x => ∃ u ∈ partsL l, u.xs ≠ [] ∧ ∃ off, u.base = some ⟨x, off, none⟩) (fun y hy => by simp [Ent.hass] at hy) (parts_data hn) (fun y hy hR => ?_) (fun p hp y hy hy' => ?_)⟩
    · have hFy := parts_F hn hy
      rcases hR with hR | hR
      · have := hwR.ro y hR
        have := (hF y hFy).1
        omega
      · exact hFG y hFy hR
    · have hFy := parts_F hn hy'
      have := Ent.size (hwR.ent p hp) hy
      have := (hF y hFy).1
      omega
theorem spansH_pl {g h : GraphV} (hl : g.l.map NodeV.pl = h.l.map NodeV.pl) (ho : g.out = h.out) : spansH g = spansH h := by
  unfold spansH
  rw [check_pl hl ho, spansQ_pl hl]
theorem tidied_fit {B : Base} {ρ : Nat → SX.Loc} {nx i : Nat} {H : Heap} {S : Asn} {w : World} {l : List NodeV} {base : Option Addr} {cap : Nat} {out : Int} (hw : Abs B ρ nx H S w) (hi : (i, Ent.ext (dataO (partsL l) true)) ∈ H) (hr : ∀ R w', S.holds R w' → RowsI w' base 9 (nodeRows l)) (hko : KeptOk l) (hl : l.length ≤ 1000000) : (GraphV.mk base cap l out).fit w := by
  obtain ⟨R, φ, hwR⟩ := hw
  have hd : (dataO (partsL l) true).holds (ρ i) (φ i) w := hwR.ent _ hi
  refine ⟨hr R w hwR.asn, fun n hn => ?_, hl⟩
  have hs := (hko n hn).1
  have p := parts_in hn
  exact ⟨⟨data_rows hd p.1, hs.shape.fits, hs.shape.room, hs.shape.few⟩, ⟨data_rows hd p.2.1, hs.data.fits, hs.data.room, hs.data.few⟩, ⟨data_rows hd p.2.2, hs.bias.fits, hs.bias.room, hs.bias.few⟩, hs.kindFits, hs.aFits, hs.bFits, hs.loFits, hs.hiFits, hs.sizeFits⟩
end Go.Proofs.Ytdmkdogakbipbaa

