import Derived.Test.YtdmkdogakbipbaaKTidyMeans8
/- PH -/
namespace Go.Proofs.Ytdmkdogakbipbaa
open Go.SX Go.RowKit
def isInP (n : NodeP) : Bool := decide (n.kind = 1)
theorem step_ins {s : List Int} {row : List NodeP} {st : List Nat} {n : NodeP} : (stepP s (row, st) n).1.filter isInP = row.filter isInP ++ (if n.kind = 1 then [n] else []) := by
  show (layP row (foldP s row (movedP st n))).1.filter isInP = _
  by_cases hk : n.kind = 1
  · rw [fold_input hk, if_pos hk]
    unfold layP
    have : findP row n = none := by unfold findP; rw [if_pos hk]
    rw [this]
    simp only [List.filter_append]
    congr 1
    rw [List.filter_cons_of_pos (by unfold isInP; simpa using hk)]; rfl
  · rw [if_neg hk, List.append_nil]
    have hfk : (foldP s row (movedP st n)).kind ≠ 1 := fun h => hk (fold_kind.1 h)
    generalize foldP s row (movedP st n) = m at *
    unfold layP
    cases findP row m with
    | some k => rfl
    | none =>
      simp only [List.filter_append]
      rw [List.filter_cons_of_neg (by unfold isInP; simpa using hfk)]; simp
theorem tidyL_ins : ∀ {l : List NodeP} {ss : List (List Int)} {x : List NodeP × List Nat}, l.length ≤ ss.length → (tidyL l ss x).1.filter isInP = x.1.filter isInP ++ l.filter isInP
  | [], ss, x, _ => by unfold tidyL; simp
  | n :: l, [], x, h => by simp at h
  | n :: l, s :: ss, x, h => by
    unfold tidyL
    rw [tidyL_ins (by simpa using h), step_ins, List.append_assoc]
    congr 1
    by_cases hk : n.kind = 1
    · rw [if_pos hk, List.filter_cons_of_pos (by unfold isInP; simpa using hk)]; rfl
    · rw [if_neg hk, List.filter_cons_of_neg (by unfold isInP; simpa using hk)]; rfl
theorem moved_in1 {st : List Nat} {n : NodeP} (h : n.kind = 1) : movedP st n = n := by unfold movedP; rw [if_pos (.inl h)]
theorem cutL_ins {need : Nat → Bool} : ∀ {l : List NodeP} {i : Nat} {x : List NodeP × List Nat}, (cutL need l i x).1.filter isInP = x.1.filter isInP ++ l.filter isInP
  | [], i, x => by unfold cutL; simp
  | n :: l, i, x => by
    unfold cutL
    rw [cutL_ins]
    by_cases hk : n.kind = 1
    · rw [if_pos (.inr hk), moved_in1 hk, List.filter_append, List.append_assoc]
      congr 1
      rw [List.filter_cons_of_pos (by unfold isInP; simpa using hk), List.filter_cons_of_pos (by unfold isInP; simpa using hk)]; rfl
    · rw [List.filter_cons_of_neg (by unfold isInP; simpa using hk)]
      split
      · simp only [List.filter_append]
        rw [List.filter_cons_of_neg (by unfold isInP; rw [(moved_eq x.2 n).2.1]; simpa using hk)]; simp
      · rfl
theorem tidyP_ins {l : List NodeP} {sh : List (List Int)} {out : Nat} (h : l.length ≤ sh.length) : (tidyP l sh out).1.filter isInP = l.filter isInP := by
  unfold tidyP
  simp only
  rw [cutL_ins, tidyL_ins h]; rfl
theorem runAt_to {l : List NodeP} {sh : List (List Int)} {sp : List Sp} {inp V : List (List Int)} (hL : RowOk l sh sp) (hV : V.length = l.length) (h : RunQ sh (l.map NodeP.toV) [] inp V) : ∀ i, i ≤ l.length → ∃ row st rsh rsp ip W, RunAt l sh sp inp V i row st rsh rsp ip W
  | 0, _ => ⟨_, _, _, _, _, _, runAt_start h⟩
  | i + 1, hi => by
    obtain ⟨_, _, _, _, _, _, h1⟩ := runAt_to hL hV h i (by omega)
    exact h1.step hL hV (by omega)
theorem cutRun_to {row : List NodeP} {rsh : List (List Int)} {rsp : List Sp} {need : Nat → Bool} {inp V : List (List Int)} (hR : RowOk row rsh rsp) (hcl : ∀ k, k < row.length → need k = true → ∀ t ∈ takesP (row.getD k nilP), need t.toNat = true) (hV : V.length = row.length) (h : RunQ rsh (row.map NodeP.toV) [] inp V) : ∀ i, i ≤ row.length → ∃ r p rsh' rsp' ip W, CutRun row rsh rsp need inp V i r p rsh' rsp' ip W
  | 0, _ => ⟨[], [], [], [], [], [], ⟨rfl, rfl, Nat.le_refl _, fun k hk => absurd hk (Nat.not_lt_zero _), fun j hj => absurd hj (Nat.not_lt_zero _), fun j k _ hk => absurd hk (Nat.not_lt_zero _), [], [], RowOk.nil, fun k hk => absurd hk (Nat.not_lt_zero _)⟩, RowOk.nil, fun k hk => absurd hk (Nat.not_lt_zero _), .nil [], ⟨inp, rfl, h⟩, fun k hk => absurd hk (Nat.not_lt_zero _)⟩
  | i + 1, hi => by
    obtain ⟨_, _, _, _, _, _, h1⟩ := cutRun_to hR hcl hV h i (by omega)
    exact h1.step hR hcl hV (by omega)
theorem RunQ.ended {sh : List (List Int)} {known ip q : List (List Int)} (h : RunQ sh [] known ip q) : ip = [] := by cases h; rfl
theorem tidyP_run {l : List NodeP} {sh : List (List Int)} {sp : List Sp} {inp V : List (List Int)} (hL : RowOk l sh sp) {out : Nat} (ho : out < l.length) (h : RunQ sh (l.map NodeP.toV) [] inp V) : ∃ rsh rsp W, RowOk (tidyP l sh out).1 rsh rsp ∧ (tidyP l sh out).2 < (tidyP l sh out).1.length ∧ (tidyP l sh out).1.length ≤ l.length ∧ RunQ rsh ((tidyP l sh out).1.map NodeP.toV) [] inp W ∧ W.getD (tidyP l sh out).2 [] = V.getD out [] := by
  have hV := h.len
  rw [List.length_map] at hV
  obtain ⟨row, st, rsh, rsp, ip, W, ⟨h1, hR, hS, hrun, ⟨ip2, e1, hrest⟩, hvals⟩⟩ := runAt_to hL hV h l.length (Nat.le_refl _)
  rw [List.drop_length, List.map_nil] at hrest
  have e2 := hrest.ended
  subst e2
  rw [List.append_nil] at e1
  subst e1
  have hd := h1.done
  have hsl := h1.len
  have hob : st.getD out 0 < row.length := by have := hS.lt out (by omega); rw [hR.lenS] at this; exact this
  have hWl := hrun.len
  rw [List.length_map] at hWl
  obtain ⟨r, p, rsh', rsp', ip', W', hC⟩ := cutRun_to (need := needB row (st.getD out 0)) hR (need_closed hR hob) hWl hrun row.length (Nat.le_refl _)
  obtain ⟨c1, hR', c3, hrun', ⟨ip2, e1, hrest⟩, hvals'⟩ := hC
  rw [List.drop_length, List.map_nil] at hrest
  have e2 := hrest.ended
  subst e2
  rw [List.append_nil] at e1
  subst e1
  have e : (r, p) = cutL (needB row (st.getD out 0)) row 0 ([], []) := by
    have e := c1.rest
    rw [List.drop_length] at e
    exact e
  have et : tidyP l sh out = (r, p.getD (st.getD out 0) 0) := by
    unfold tidyP
    rw [hd]
    simp only
    rw [← e]
  rw [et]
  have hkeep : KeepP row (needB row (st.getD out 0)) (st.getD out 0) := .inl ((need_reach hR.aheads hob _).2 (.refl _))
  refine ⟨rsh', rsp', W', hR', (List.getElem?_eq_some_iff.1 (c1.at_ _ hob hkeep)).1, by have := c1.few; have := h1.few; show r.length ≤ _; omega, hrun', ?_⟩
  show W'.getD (p.getD (st.getD out 0) 0) [] = _
  rw [hvals' _ hob hkeep, hvals _ ho]
end Go.Proofs.Ytdmkdogakbipbaa

/- GY -/
namespace Go.Proofs.Ytdmkdogakbipbaa
abbrev dtGY0 : Go.SX.DT := (.take 0 (.take 3 (.take 4 (.take 5 (.take 6 (.take 7 (.take 8 (.take 9 (.take 10 (.take 13 (.take 14 (.take 15 (.take 16 (.take 17 (.one 1 (.take 2 (.one 11 (.take 12 (.one 18 (.take 19 (.one 20 (.take 21 (.done)))))))))))))))))))))))
abbrev dtGY1 : Go.SX.DT := (.take 0 (.take 1 (.take 2 (.take 3 (.take 4 (.take 5 (.take 6 (.take 7 (.take 8 (.take 9 (.take 10 (.take 11 (.take 12 (.take 13 (.take 14 (.take 15 (.take 16 (.take 17 (.take 19 (.take 20 (.take 21 (.take 22 (.one 18 (.one 23 (.take 24 (.one 25 (.done)))))))))))))))))))))))))))
open Go.SX Go.RowKit
/-- what the function that makes a node hands back -/
structure NodeOut (sv : ShapesV) (x : NodeV × Bool) : Prop where
  good : GoodNode x.1 (sv.l.map (·.xs))
  alias_ : x.2 = true → x.1.shape ∈ sv.l
abbrev NPost (w : World) (b : Nat) (t : BytesV) (sv : ShapesV) : Ending → World → Prop := TPost w b t (fun x : NodeV × Bool => x.1.valA) (fun x => nodeD x.1 x.2) (NodeOut sv)
/-- the ending: a node whose numbers are at hand -/
theorem ends_node {w : World} {b : Nat} {t : BytesV} {sv : ShapesV} {H : Heap} {S : Asn} {nx k : Nat} {v : SV} (h0 : (0, Ent.box (cs (tcells t k)) 30) ∈ H) (hk : k ≤ t.bs.length) (hS : ∀ R w', S.holds R w' → (restA w b).holds R w')
    (h : ∀ ρ w', Abs ⟨w, [(0, boxL b)]⟩ ρ nx H S w' → ∃ x : NodeV × Bool, v.rf ρ = x.1.valA ∧ NodeOut sv x ∧ (nodeD x.1 x.2).holds (fun y => w.heap.size ≤ y ∧ y < w'.heap.size) w') : finK ⟨w, [(0, boxL b)]⟩ v H S nx (NPost w b t sv) :=
  fin_of fun ρ w' hw => by
    obtain ⟨x, e, hx, hd⟩ := h ρ w' hw
    exact ⟨(x, k), ⟨hx, hk⟩, by rw [e], (box_end hw hS h0).1, (box_end hw hS h0).2, hd⟩
/-- one's own numbers at a node's end -/
theorem shapes_get {sv : ShapesV} {i : Nat} (h : i < sv.l.length) : (sv.l.map (·.xs)).getD i [] = sv.l[i].xs := by simp [List.getD, h]
theorem smallL1 {x : Int} (h : -4 ≤ x ∧ x ≤ 4) : smallL [x] := fun y hy => by simp at hy; subst hy; exact h
theorem smallL3 {x y z : Int} (h1 : -4 ≤ x ∧ x ≤ 4) (h2 : -4 ≤ y ∧ y ≤ 4) (h3 : -4 ≤ z ∧ z ≤ 4) : smallL [x, y, z] := fun u hu => by
  simp only [List.mem_cons, List.not_mem_nil, or_false] at hu
  rcases hu with rfl | rfl | rfl <;> assumption
theorem agg_shape {ρ : Nat → SX.Loc} {v : SV} {u : IntsV} {k a b c d e : Int} {x y : Value} (h : v.rf ρ = u.val) : (SV.agg [.c (.int .i64 k), .c (.int .i64 a), .c (.int .i64 b), v, .c (.int .i64 c), .c (.int .i64 d), .c (.int .i64 e), .c x, .c y]).rf ρ = .agg #[.int .i64 k, .int .i64 a, .int .i64 b, u.val, .int .i64 c, .int .i64 d, .int .i64 e, x, y] := by
  simp only [SV.rf, SV.rfs] at h ⊢
  rw [h]
theorem agg_data {ρ : Nat → SX.Loc} {v : SV} {u : IntsV} {k a b c d e : Int} {x y : Value} (h : v.rf ρ = u.val) : (SV.agg [.c (.int .i64 k), .c (.int .i64 a), .c (.int .i64 b), .c x, .c (.int .i64 c), .c (.int .i64 d), .c (.int .i64 e), v, .c y]).rf ρ = .agg #[.int .i64 k, .int .i64 a, .int .i64 b, x, .int .i64 c, .int .i64 d, .int .i64 e, u.val, y] := by
  simp only [SV.rf, SV.rfs] at h ⊢
  rw [h]
set_option maxRecDepth 20000 in
set_option maxHeartbeats 8000000 in
theorem node_any (w : World) (b : Nat) (t : BytesV) (k : Nat) (h : TapeOk w b t k) (sv : ShapesV) (hsv : (shapesD sv).holds (oth w b) w) (hl : 1 ≤ sv.l.length ∧ sv.l.length ≤ 23) (hsane : ∀ u ∈ sv.l, u.sane) (hok : ∀ u ∈ sv.l, ShOk u.xs) :
    Calls Try.prog 42 #[.pointer (some ⟨b, 0, none⟩), sv.val] w (NPost w b t sv) := by
  obtain ⟨hs, hby, hd, hk, hb⟩ := h
  obtain ⟨sb, hsb⟩ : ∃ a, sv.base = some a := base_some (j := 0) (rowsA_in hsv.1) (by rw [shRows_length]; omega)
  have hlm : (sv.l.map (·.xs)).length = sv.l.length := List.length_map _
  refine calls_of tab tabOk Try.func42 rfl rfl rfl [(0, boxL b)] (fun _ => boxL b) [.lp 0 0 0 0, .c sv.val] _ (restA w b) 1 (by simp [SV.rfs, SV.rf, boxL, add_none]) rfl (by show 2 ≤ _; decide) (abs_box hb) ?_
  (repeat' ((conv => whnf) <;> first | (show drawK _ 13 _ _ _ _ _ _; refine draw_tree tabOk mixed [] _ dtGY0 (by kernel_rfl) (by kernel_rfl) (by kernel_rfl) (List.Sublist.refl _) ?_) | (show drawK _ 14 _ _ _ _ _ _; refine draw_tree tabOk mixed [25] _ dtGY1 (by kernel_rfl) (by kernel_rfl) (by kernel_rfl) (List.Sublist.refl _) ?_) | (show Wp _ _ _ _ _ _ _; refine Wp.go tabOk rfl ?_) | (show @cmpK _ _ _; (first | refine cmpY ?_ | refine cmpN ?_ | (refine cmp_both ?_ ?_ <;> intro _))) | (show wrapK _ _ _; refine wrapA ?_) | (show leK _ _ _; refine leA ?_) | (show roomK _ _ _; refine roomA ?_) | (show ltK _ _ _; refine ltA ?_) | (show _ ∧ _; refine ⟨?_, ?_⟩) | (show keepK _ _ _ _ _; refine keepA ?_) | refine own_keep ?_ | refine ap_old ?_))
  all_goals
    first
      | refine call_num (f := 41) [.int .i64 3] t k _ (by first | exact List.mem_cons_self | exact List.mem_cons_of_mem _ List.mem_cons_self | (repeat (first | exact List.mem_cons_self | apply List.mem_cons_of_mem))) Try.call41 hs hby hk (fun R w' h => rest_holds hd (by first | exact h | exact h.1 | exact h.1.1 | exact h.1.1.1)) (fun w' b' ht => next_any w' b' t k ht 3 ⟨by decide, by decide⟩) (fun r k1 hr hk1 => ?_)
      | refine call_num (f := 41) [.int .i64 sv.l.length] t k _ (by first | exact List.mem_cons_self | exact List.mem_cons_of_mem _ List.mem_cons_self | (repeat (first | exact List.mem_cons_self | apply List.mem_cons_of_mem))) Try.call41 hs hby hk (fun R w' h => rest_holds hd (by first | exact h | exact h.1 | exact h.1.1 | exact h.1.1.1)) (fun w' b' ht => next_any w' b' t k ht sv.l.length ⟨by omega, by omega⟩) (fun r k1 hr hk1 => ?_)
    obtain ⟨i, hia, hil⟩ : ∃ i : Nat, (sv.l.length : Int) - 1 - r = i ∧ i < sv.l.length := ⟨((sv.l.length : Int) - 1 - r).toNat, by have := hr.1; have := hr.2.1; have := hr.2.2; omega, by have := hr.1; have := hr.2.1; have := hr.2.2; omega⟩
    have hgi := shapes_get hil
    have hum := List.getElem_mem hil
    have hrow := shRows_get hil
    generalize sv.l[i] = u at *
    have hus := hsane u hum
    have huo := hok u hum
    have hup := huo.pos
    have huf := huo.few
    have hi2 : i < (sv.l.map (·.xs)).length := by rw [hlm]; exact hil
    have h24 : (sv.l.map (·.xs)).length ≤ 24 := by rw [hlm]; omega
    have hr0 := hr.1
    have hr1 := hr.2.1
    have hr2 := hr.2.2
    (repeat' ((conv => whnf) <;> first | (show idxK _ _ _ _ _; refine idx_of sb i hsb hia hil ?_) | (show roK _ _ _; (refine ro_row0 (fun R w' h => by rw [← hsb]; exact rowsA_in (rest_holds hsv h).1) _ _ hrow rfl ?_)) | (show callK _ 34 _ _ _ _ _; refine call_pure (f := 34) Try.call34 (.int .i64 (entries u.xs)) (fun ρ w' hw => refEntries_any w' u.base u.cap u.xs (holds_of_abs hw fun R h => rowsA_in ((rest_holds hsv h).2 u hum))) ?_) | (show drawK _ 13 _ _ _ _ _ _; refine draw_tree tabOk mixed [] _ dtGY0 (by kernel_rfl) (by kernel_rfl) (by kernel_rfl) (List.Sublist.refl _) ?_) | (show drawK _ 14 _ _ _ _ _ _; refine draw_tree tabOk mixed [25] _ dtGY1 (by kernel_rfl) (by kernel_rfl) (by kernel_rfl) (List.Sublist.refl _) ?_) | (show Wp _ _ _ _ _ _ _; refine Wp.go tabOk rfl ?_) | (show @cmpK _ _ _; (first | refine cmpY ?_ | refine cmpN ?_ | (refine cmp_both ?_ ?_ <;> intro _))) | (show wrapK _ _ _; refine wrapA ?_) | (show leK _ _ _; refine leA ?_) | (show roomK _ _ _; refine roomA ?_) | (show ltK _ _ _; refine ltA ?_) | (show _ ∧ _; refine ⟨?_, ?_⟩) | (show keepK _ _ _ _ _; refine keepA ?_) | refine own_keep ?_ | refine ap_old ?_))
    refine call_num (f := 41) [.int .i64 9] t k1 _ (by first | exact List.mem_cons_self | exact List.mem_cons_of_mem _ List.mem_cons_self | (repeat (first | exact List.mem_cons_self | apply List.mem_cons_of_mem))) Try.call41 hs hby hk1 (fun R w' h => rest_holds hd (by first | exact h | exact h.1 | exact h.1.1 | exact h.1.1.1)) (fun w' b' ht => next_any w' b' t k1 ht 9 ⟨by decide, by decide⟩) (fun q k2 hq hk2 => ?_)
    have hq9 : q = 0 ∨ q = 1 ∨ q = 2 ∨ q = 3 ∨ q = 4 ∨ q = 5 ∨ q = 6 ∨ q = 7 ∨ q = 8 := by have := hq.1; have := hq.2.1 (by omega); omega
    rcases hq9 with rfl | rfl | rfl | rfl | rfl | rfl | rfl | rfl | rfl
    · (repeat' ((conv => whnf) <;> first | (show drawK _ 13 _ _ _ _ _ _; refine draw_tree tabOk mixed [] _ dtGY0 (by kernel_rfl) (by kernel_rfl) (by kernel_rfl) (List.Sublist.refl _) ?_) | (show drawK _ 14 _ _ _ _ _ _; refine draw_tree tabOk mixed [25] _ dtGY1 (by kernel_rfl) (by kernel_rfl) (by kernel_rfl) (List.Sublist.refl _) ?_) | (show Wp _ _ _ _ _ _ _; refine Wp.go tabOk rfl ?_) | (show @cmpK _ _ _; (first | refine cmpY ?_ | refine cmpN ?_ | (refine cmp_both ?_ ?_ <;> intro _))) | (show wrapK _ _ _; refine wrapA ?_) | (show leK _ _ _; refine leA ?_) | (show roomK _ _ _; refine roomA ?_) | (show ltK _ _ _; refine ltA ?_) | (show _ ∧ _; refine ⟨?_, ?_⟩) | (show keepK _ _ _ _ _; refine keepA ?_) | refine own_keep ?_ | refine ap_old ?_))
      refine call_t (f := 71) [.int .i64 (entries u.xs)] t k2 IntsV.val intsA _ (by first | exact List.mem_cons_self | exact List.mem_cons_of_mem _ List.mem_cons_self | (repeat (first | exact List.mem_cons_self | apply List.mem_cons_of_mem))) Try.call71 hs hby hk2 (fun R w' h => rest_holds hd (by first | exact h | exact h.1 | exact h.1.1 | exact h.1.1.1)) (fun R w' b' ht _ _ => row_any w' b' t k2 ht (entries u.xs) (by omega) (by omega)) (fun d k3 hdd hk3 => ?_)
      (repeat' ((conv => whnf) <;> first | (show drawK _ 13 _ _ _ _ _ _; refine draw_tree tabOk mixed [] _ dtGY0 (by kernel_rfl) (by kernel_rfl) (by kernel_rfl) (List.Sublist.refl _) ?_) | (show drawK _ 14 _ _ _ _ _ _; refine draw_tree tabOk mixed [25] _ dtGY1 (by kernel_rfl) (by kernel_rfl) (by kernel_rfl) (List.Sublist.refl _) ?_) | (show Wp _ _ _ _ _ _ _; refine Wp.go tabOk rfl ?_) | (show @cmpK _ _ _; (first | refine cmpY ?_ | refine cmpN ?_ | (refine cmp_both ?_ ?_ <;> intro _))) | (show wrapK _ _ _; refine wrapA ?_) | (show leK _ _ _; refine leA ?_) | (show roomK _ _ _; refine roomA ?_) | (show ltK _ _ _; refine ltA ?_) | (show _ ∧ _; refine ⟨?_, ?_⟩) | (show keepK _ _ _ _ _; refine keepA ?_) | refine own_keep ?_ | refine ap_old ?_))
      conv => whnf
      exact ends_node (by first | exact List.mem_cons_self | exact List.mem_cons_of_mem _ List.mem_cons_self | (repeat (first | exact List.mem_cons_self | apply List.mem_cons_of_mem))) hk3 (fun _ _ h => h.1) (fun ρ w' hw => ⟨(⟨2, 0, 0, u, 0, 0, 0, d, nilI⟩, true), rfl, ⟨good_const hus huo hdd.2.2 (by rw [hdd.1]; omega) hdd.2.1, fun _ => hum⟩, ⟨fun e => (by cases e), past_new hw (fun _ _ h => h.2), nilI_holds _ _⟩⟩)
    · (repeat' ((conv => whnf) <;> first | (show drawK _ 13 _ _ _ _ _ _; refine draw_tree tabOk mixed [] _ dtGY0 (by kernel_rfl) (by kernel_rfl) (by kernel_rfl) (List.Sublist.refl _) ?_) | (show drawK _ 14 _ _ _ _ _ _; refine draw_tree tabOk mixed [25] _ dtGY1 (by kernel_rfl) (by kernel_rfl) (by kernel_rfl) (List.Sublist.refl _) ?_) | (show Wp _ _ _ _ _ _ _; refine Wp.go tabOk rfl ?_) | (show @cmpK _ _ _; (first | refine cmpY ?_ | refine cmpN ?_ | (refine cmp_both ?_ ?_ <;> intro _))) | (show wrapK _ _ _; refine wrapA ?_) | (show leK _ _ _; refine leA ?_) | (show roomK _ _ _; refine roomA ?_) | (show ltK _ _ _; refine ltA ?_) | (show _ ∧ _; refine ⟨?_, ?_⟩) | (show keepK _ _ _ _ _; refine keepA ?_) | refine own_keep ?_ | refine ap_old ?_))
      refine call_num (f := 41) [.int .i64 4] t k2 _ (by first | exact List.mem_cons_self | exact List.mem_cons_of_mem _ List.mem_cons_self | (repeat (first | exact List.mem_cons_self | apply List.mem_cons_of_mem))) Try.call41 hs hby hk2 (fun R w' h => rest_holds hd (by first | exact h | exact h.1 | exact h.1.1 | exact h.1.1.1)) (fun w' b' ht => next_any w' b' t k2 ht 4 ⟨by omega, by omega⟩) (fun o k3 ho hk3 => ?_)
      have ho0 := ho.1
      have ho1 := ho.2.1 (by omega)
      have hm : 1 ≤ (1 + o) * entries u.xs ∧ (1 + o) * entries u.xs ≤ 72 := by
        have g1 : (1 + o) * entries u.xs ≤ 4 * 18 := Int.mul_le_mul (by omega) huf (by omega) (by omega)
        have g2 : 1 * 1 ≤ (1 + o) * entries u.xs := Int.mul_le_mul (by omega) hup (by omega) (by omega)
        omega
      (repeat' ((conv => whnf) <;> first | (show drawK _ 13 _ _ _ _ _ _; refine draw_tree tabOk mixed [] _ dtGY0 (by kernel_rfl) (by kernel_rfl) (by kernel_rfl) (List.Sublist.refl _) ?_) | (show drawK _ 14 _ _ _ _ _ _; refine draw_tree tabOk mixed [25] _ dtGY1 (by kernel_rfl) (by kernel_rfl) (by kernel_rfl) (List.Sublist.refl _) ?_) | (show Wp _ _ _ _ _ _ _; refine Wp.go tabOk rfl ?_) | (show @cmpK _ _ _; (first | refine cmpY ?_ | refine cmpN ?_ | (refine cmp_both ?_ ?_ <;> intro _))) | (show wrapK _ _ _; refine wrapA ?_) | (show leK _ _ _; refine leA ?_) | (show roomK _ _ _; refine roomA ?_) | (show ltK _ _ _; refine ltA ?_) | (show _ ∧ _; refine ⟨?_, ?_⟩) | (show keepK _ _ _ _ _; refine keepA ?_) | refine own_keep ?_ | refine ap_old ?_))
      refine call_t (f := 71) [.int .i64 ((1 + o) * entries u.xs)] t k3 IntsV.val intsA _ (by first | exact List.mem_cons_self | exact List.mem_cons_of_mem _ List.mem_cons_self | (repeat (first | exact List.mem_cons_self | apply List.mem_cons_of_mem))) Try.call71 hs hby hk3 (fun R w' h => rest_holds hd (by first | exact h | exact h.1 | exact h.1.1 | exact h.1.1.1)) (fun R w' b' ht _ _ => row_any w' b' t k3 ht ((1 + o) * entries u.xs) (by omega) (by omega)) (fun d k4 hdd hk4 => ?_)
      (repeat' ((conv => whnf) <;> first | (show drawK _ 13 _ _ _ _ _ _; refine draw_tree tabOk mixed [] _ dtGY0 (by kernel_rfl) (by kernel_rfl) (by kernel_rfl) (List.Sublist.refl _) ?_) | (show drawK _ 14 _ _ _ _ _ _; refine draw_tree tabOk mixed [25] _ dtGY1 (by kernel_rfl) (by kernel_rfl) (by kernel_rfl) (List.Sublist.refl _) ?_) | (show Wp _ _ _ _ _ _ _; refine Wp.go tabOk rfl ?_) | (show @cmpK _ _ _; (first | refine cmpY ?_ | refine cmpN ?_ | (refine cmp_both ?_ ?_ <;> intro _))) | (show wrapK _ _ _; refine wrapA ?_) | (show leK _ _ _; refine leA ?_) | (show roomK _ _ _; refine roomA ?_) | (show ltK _ _ _; refine ltA ?_) | (show _ ∧ _; refine ⟨?_, ?_⟩) | (show keepK _ _ _ _ _; refine keepA ?_) | refine own_keep ?_ | refine ap_old ?_))
      refine call_t (f := 71) [.int .i64 (1 + o)] t k4 IntsV.val intsA _ (by first | exact List.mem_cons_self | exact List.mem_cons_of_mem _ List.mem_cons_self | (repeat (first | exact List.mem_cons_self | apply List.mem_cons_of_mem))) Try.call71 hs hby hk4 (fun R w' h => rest_holds hd (by first | exact h | exact h.1 | exact h.1.1 | exact h.1.1.1)) (fun R w' b' ht _ _ => row_any w' b' t k4 ht (1 + o) (by omega) (by omega)) (fun e k5 hee hk5 => ?_)
      (repeat' ((conv => whnf) <;> first | (show drawK _ 13 _ _ _ _ _ _; refine draw_tree tabOk mixed [] _ dtGY0 (by kernel_rfl) (by kernel_rfl) (by kernel_rfl) (List.Sublist.refl _) ?_) | (show drawK _ 14 _ _ _ _ _ _; refine draw_tree tabOk mixed [25] _ dtGY1 (by kernel_rfl) (by kernel_rfl) (by kernel_rfl) (List.Sublist.refl _) ?_) | (show Wp _ _ _ _ _ _ _; refine Wp.go tabOk rfl ?_) | (show @cmpK _ _ _; (first | refine cmpY ?_ | refine cmpN ?_ | (refine cmp_both ?_ ?_ <;> intro _))) | (show wrapK _ _ _; refine wrapA ?_) | (show leK _ _ _; refine leA ?_) | (show roomK _ _ _; refine roomA ?_) | (show ltK _ _ _; refine ltA ?_) | (show _ ∧ _; refine ⟨?_, ?_⟩) | (show keepK _ _ _ _ _; refine keepA ?_) | refine own_keep ?_ | refine ap_old ?_))
      conv => whnf
      have hel : (e.xs.length : Int) = 1 + o := by rw [hee.1]; omega
      exact ends_node (by first | exact List.mem_cons_self | exact List.mem_cons_of_mem _ List.mem_cons_self | (repeat (first | exact List.mem_cons_self | apply List.mem_cons_of_mem))) hk5 (fun _ _ h => h.1.1) (fun ρ w' hw => ⟨(⟨3, ((sv.l.length : Int) - 1 - r), 0, nilI, 0, 0, 0, d, e⟩, false), rfl, ⟨by rw [hia]; exact good_dense hi2 hgi huo hdd.2.2 hee.2.2 ⟨by omega, by omega⟩ (by rw [hel, hdd.1]; omega) hdd.2.1 hee.2.1 h24, fun h => (by cases h)⟩, ⟨fun _ => nilI_holds _ _, past_new hw (fun _ _ h => h.1.2), past_new hw (fun _ _ h => h.2)⟩⟩)
    · (repeat' ((conv => whnf) <;> first | (show drawK _ 13 _ _ _ _ _ _; refine draw_tree tabOk mixed [] _ dtGY0 (by kernel_rfl) (by kernel_rfl) (by kernel_rfl) (List.Sublist.refl _) ?_) | (show drawK _ 14 _ _ _ _ _ _; refine draw_tree tabOk mixed [25] _ dtGY1 (by kernel_rfl) (by kernel_rfl) (by kernel_rfl) (List.Sublist.refl _) ?_) | (show Wp _ _ _ _ _ _ _; refine Wp.go tabOk rfl ?_) | (show @cmpK _ _ _; (first | refine cmpY ?_ | refine cmpN ?_ | (refine cmp_both ?_ ?_ <;> intro _))) | (show wrapK _ _ _; refine wrapA ?_) | (show leK _ _ _; refine leA ?_) | (show roomK _ _ _; refine roomA ?_) | (show ltK _ _ _; refine ltA ?_) | (show _ ∧ _; refine ⟨?_, ?_⟩) | (show keepK _ _ _ _ _; refine keepA ?_) | refine own_keep ?_ | refine ap_old ?_))
      refine call_num (f := 41) [.int .i64 4] t k2 _ (by first | exact List.mem_cons_self | exact List.mem_cons_of_mem _ List.mem_cons_self | (repeat (first | exact List.mem_cons_self | apply List.mem_cons_of_mem))) Try.call41 hs hby hk2 (fun R w' h => rest_holds hd (by first | exact h | exact h.1 | exact h.1.1 | exact h.1.1.1)) (fun w' b' ht => next_any w' b' t k2 ht 4 ⟨by omega, by omega⟩) (fun o k3 ho hk3 => ?_)
      have ho0 := ho.1
      have ho1 := ho.2.1 (by omega)
      have hm : 1 ≤ (1 + o) * entries u.xs ∧ (1 + o) * entries u.xs ≤ 72 := by
        have g1 : (1 + o) * entries u.xs ≤ 4 * 18 := Int.mul_le_mul (by omega) huf (by omega) (by omega)
        have g2 : 1 * 1 ≤ (1 + o) * entries u.xs := Int.mul_le_mul (by omega) hup (by omega) (by omega)
        omega
      (repeat' ((conv => whnf) <;> first | (show drawK _ 13 _ _ _ _ _ _; refine draw_tree tabOk mixed [] _ dtGY0 (by kernel_rfl) (by kernel_rfl) (by kernel_rfl) (List.Sublist.refl _) ?_) | (show drawK _ 14 _ _ _ _ _ _; refine draw_tree tabOk mixed [25] _ dtGY1 (by kernel_rfl) (by kernel_rfl) (by kernel_rfl) (List.Sublist.refl _) ?_) | (show Wp _ _ _ _ _ _ _; refine Wp.go tabOk rfl ?_) | (show @cmpK _ _ _; (first | refine cmpY ?_ | refine cmpN ?_ | (refine cmp_both ?_ ?_ <;> intro _))) | (show wrapK _ _ _; refine wrapA ?_) | (show leK _ _ _; refine leA ?_) | (show roomK _ _ _; refine roomA ?_) | (show ltK _ _ _; refine ltA ?_) | (show _ ∧ _; refine ⟨?_, ?_⟩) | (show keepK _ _ _ _ _; refine keepA ?_) | refine own_keep ?_ | refine ap_old ?_))
      refine call_t (f := 71) [.int .i64 ((1 + o) * entries u.xs)] t k3 IntsV.val intsA _ (by first | exact List.mem_cons_self | exact List.mem_cons_of_mem _ List.mem_cons_self | (repeat (first | exact List.mem_cons_self | apply List.mem_cons_of_mem))) Try.call71 hs hby hk3 (fun R w' h => rest_holds hd (by first | exact h | exact h.1 | exact h.1.1 | exact h.1.1.1)) (fun R w' b' ht _ _ => row_any w' b' t k3 ht ((1 + o) * entries u.xs) (by omega) (by omega)) (fun d k4 hdd hk4 => ?_)
      (repeat' ((conv => whnf) <;> first | (show drawK _ 13 _ _ _ _ _ _; refine draw_tree tabOk mixed [] _ dtGY0 (by kernel_rfl) (by kernel_rfl) (by kernel_rfl) (List.Sublist.refl _) ?_) | (show drawK _ 14 _ _ _ _ _ _; refine draw_tree tabOk mixed [25] _ dtGY1 (by kernel_rfl) (by kernel_rfl) (by kernel_rfl) (List.Sublist.refl _) ?_) | (show Wp _ _ _ _ _ _ _; refine Wp.go tabOk rfl ?_) | (show @cmpK _ _ _; (first | refine cmpY ?_ | refine cmpN ?_ | (refine cmp_both ?_ ?_ <;> intro _))) | (show wrapK _ _ _; refine wrapA ?_) | (show leK _ _ _; refine leA ?_) | (show roomK _ _ _; refine roomA ?_) | (show ltK _ _ _; refine ltA ?_) | (show _ ∧ _; refine ⟨?_, ?_⟩) | (show keepK _ _ _ _ _; refine keepA ?_) | refine own_keep ?_ | refine ap_old ?_))
      refine call_t (f := 71) [.int .i64 (1 + o)] t k4 IntsV.val intsA _ (by first | exact List.mem_cons_self | exact List.mem_cons_of_mem _ List.mem_cons_self | (repeat (first | exact List.mem_cons_self | apply List.mem_cons_of_mem))) Try.call71 hs hby hk4 (fun R w' h => rest_holds hd (by first | exact h | exact h.1 | exact h.1.1 | exact h.1.1.1)) (fun R w' b' ht _ _ => row_any w' b' t k4 ht (1 + o) (by omega) (by omega)) (fun e k5 hee hk5 => ?_)
      (repeat' ((conv => whnf) <;> first | (show drawK _ 13 _ _ _ _ _ _; refine draw_tree tabOk mixed [] _ dtGY0 (by kernel_rfl) (by kernel_rfl) (by kernel_rfl) (List.Sublist.refl _) ?_) | (show drawK _ 14 _ _ _ _ _ _; refine draw_tree tabOk mixed [25] _ dtGY1 (by kernel_rfl) (by kernel_rfl) (by kernel_rfl) (List.Sublist.refl _) ?_) | (show Wp _ _ _ _ _ _ _; refine Wp.go tabOk rfl ?_) | (show @cmpK _ _ _; (first | refine cmpY ?_ | refine cmpN ?_ | (refine cmp_both ?_ ?_ <;> intro _))) | (show wrapK _ _ _; refine wrapA ?_) | (show leK _ _ _; refine leA ?_) | (show roomK _ _ _; refine roomA ?_) | (show ltK _ _ _; refine ltA ?_) | (show _ ∧ _; refine ⟨?_, ?_⟩) | (show keepK _ _ _ _ _; refine keepA ?_) | refine own_keep ?_ | refine ap_old ?_))
      conv => whnf
      have hel : (e.xs.length : Int) = 1 + o := by rw [hee.1]; omega
      exact ends_node (by first | exact List.mem_cons_self | exact List.mem_cons_of_mem _ List.mem_cons_self | (repeat (first | exact List.mem_cons_self | apply List.mem_cons_of_mem))) hk5 (fun _ _ h => h.1.1) (fun ρ w' hw => ⟨(⟨3, ((sv.l.length : Int) - 1 - r), 0, nilI, 0, 0, 0, d, e⟩, false), rfl, ⟨by rw [hia]; exact good_dense hi2 hgi huo hdd.2.2 hee.2.2 ⟨by omega, by omega⟩ (by rw [hel, hdd.1]; omega) hdd.2.1 hee.2.1 h24, fun h => (by cases h)⟩, ⟨fun _ => nilI_holds _ _, past_new hw (fun _ _ h => h.1.2), past_new hw (fun _ _ h => h.2)⟩⟩)
    · by_cases h3 : u.xs.length = 3
      · obtain ⟨_, p0, p00, p1, p2, _, p3, p4⟩ := dims3 huo h3
        obtain ⟨ua, hua⟩ : ∃ a, u.base = some a := base_some (j := 0) (rowsA_in (hsv.2 u hum)) (by rw [ints_length]; omega)
        have hur : ∀ (R : Nat → Prop) w', (restA w b).holds R w' → RowsI w' (some ua) 1 (ints u.xs) := fun R w' h => by rw [← hua]; exact rowsA_in ((rest_holds hsv h).2 u hum)
        (repeat' ((conv => whnf) <;> first | (show drawK _ 13 _ _ _ _ _ _; refine draw_tree tabOk mixed [] [] dtGY0 (by kernel_rfl) (by kernel_rfl) (by kernel_rfl) (List.nil_sublist _) ?_) | (show drawK _ 14 _ _ _ _ _ _; refine draw_tree tabOk mixed [25] _ dtGY1 (by kernel_rfl) (by kernel_rfl) (by kernel_rfl) (List.Sublist.cons_cons _ (List.Sublist.cons_cons _ (List.Sublist.cons _ (List.Sublist.refl _)))) ?_) | (show keepK _ _ _ _ _; refine keepB ?_) | (show idxK _ _ _ _ _; refine idx_of _ 0 hua rfl (by omega) ?_) | (show roK _ _ _; refine ro_int hur (j := 0) (by omega) ?_) | (show idxK _ _ _ _ _; refine idx_of _ 1 hua rfl (by omega) ?_) | (show roK _ _ _; refine ro_int hur (j := 1) (by omega) ?_) | (show idxK _ _ _ _ _; refine idx_of _ 2 hua rfl (by omega) ?_) | (show roK _ _ _; refine ro_int hur (j := 2) (by omega) ?_) | (show idxRowK _ _ _ _ _ _; (first | refine idxRow_of 0 rfl (show 0 < 4 by decide) (show 4 ≤ 4 by decide) ?_ | refine idxRow_of 1 rfl (show 1 < 4 by decide) (show 4 ≤ 4 by decide) ?_ | refine idxRow_of 2 rfl (show 2 < 4 by decide) (show 4 ≤ 4 by decide) ?_ | refine idxRow_of 3 rfl (show 3 < 4 by decide) (show 4 ≤ 4 by decide) ?_)) | (show rowK _ _ _ _; refine row_of _ _ rfl rfl ?_) | (show Wp _ _ _ _ _ _ _; refine Wp.go tabOk rfl ?_) | (show @cmpK _ _ _; (first | refine cmpY ?_ | refine cmpN ?_ | (refine cmp_both ?_ ?_ <;> intro _))) | (show wrapK _ _ _; refine wrapA ?_) | (show leK _ _ _; refine leA ?_) | (show roomK _ _ _; refine roomA ?_) | (show ltK _ _ _; refine ltA ?_) | (show _ ∧ _; refine ⟨?_, ?_⟩) | (show keepK _ _ _ _ _; refine keepA ?_) | refine own_keep ?_ | refine ap_old ?_))
        all_goals
          refine call_num (f := 41) [.int .i64 (2)] t k2 _ (by first | exact List.mem_cons_self | exact List.mem_cons_of_mem _ List.mem_cons_self | (repeat (first | exact List.mem_cons_self | apply List.mem_cons_of_mem))) Try.call41 hs hby hk2 (fun R w' h => rest_holds hd (by first | exact h | exact h.1 | exact h.1.1 | exact h.1.1.1)) (fun w' b' ht => next_any w' b' t k2 ht (2) ⟨by omega, by omega⟩) (fun c0 k3 hc0 hk3 => ?_)
          have hc00 := hc0.1
          have hc01 := hc0.2.1 (by omega)
          (repeat' ((conv => whnf) <;> first | (show drawK _ 13 _ _ _ _ _ _; refine draw_tree tabOk mixed [] [] dtGY0 (by kernel_rfl) (by kernel_rfl) (by kernel_rfl) (List.nil_sublist _) ?_) | (show drawK _ 14 _ _ _ _ _ _; refine draw_tree tabOk mixed [25] _ dtGY1 (by kernel_rfl) (by kernel_rfl) (by kernel_rfl) (List.Sublist.cons_cons _ (List.Sublist.cons_cons _ (List.Sublist.cons _ (List.Sublist.refl _)))) ?_) | (show keepK _ _ _ _ _; refine keepB ?_) | (show idxK _ _ _ _ _; refine idx_of _ 0 hua rfl (by omega) ?_) | (show roK _ _ _; refine ro_int hur (j := 0) (by omega) ?_) | (show idxK _ _ _ _ _; refine idx_of _ 1 hua rfl (by omega) ?_) | (show roK _ _ _; refine ro_int hur (j := 1) (by omega) ?_) | (show idxK _ _ _ _ _; refine idx_of _ 2 hua rfl (by omega) ?_) | (show roK _ _ _; refine ro_int hur (j := 2) (by omega) ?_) | (show idxRowK _ _ _ _ _ _; (first | refine idxRow_of 0 rfl (show 0 < 4 by decide) (show 4 ≤ 4 by decide) ?_ | refine idxRow_of 1 rfl (show 1 < 4 by decide) (show 4 ≤ 4 by decide) ?_ | refine idxRow_of 2 rfl (show 2 < 4 by decide) (show 4 ≤ 4 by decide) ?_ | refine idxRow_of 3 rfl (show 3 < 4 by decide) (show 4 ≤ 4 by decide) ?_)) | (show rowK _ _ _ _; refine row_of _ _ rfl rfl ?_) | (show Wp _ _ _ _ _ _ _; refine Wp.go tabOk rfl ?_) | (show @cmpK _ _ _; (first | refine cmpY ?_ | refine cmpN ?_ | (refine cmp_both ?_ ?_ <;> intro _))) | (show wrapK _ _ _; refine wrapA ?_) | (show leK _ _ _; refine leA ?_) | (show roomK _ _ _; refine roomA ?_) | (show ltK _ _ _; refine ltA ?_) | (show _ ∧ _; refine ⟨?_, ?_⟩) | (show keepK _ _ _ _ _; refine keepA ?_) | refine own_keep ?_ | refine ap_old ?_))
          first
            | refine call_num (f := 41) [.int .i64 (2)] t k3 _ (by first | exact List.mem_cons_self | exact List.mem_cons_of_mem _ List.mem_cons_self | (repeat (first | exact List.mem_cons_self | apply List.mem_cons_of_mem))) Try.call41 hs hby hk3 (fun R w' h => rest_holds hd (by first | exact h | exact h.1 | exact h.1.1 | exact h.1.1.1)) (fun w' b' ht => next_any w' b' t k3 ht (2) ⟨by omega, by omega⟩) (fun c1 k4 hc1 hk4 => ?_)
            | refine call_num (f := 41) [.int .i64 (u.xs.getD 1 0)] t k3 _ (by first | exact List.mem_cons_self | exact List.mem_cons_of_mem _ List.mem_cons_self | (repeat (first | exact List.mem_cons_self | apply List.mem_cons_of_mem))) Try.call41 hs hby hk3 (fun R w' h => rest_holds hd (by first | exact h | exact h.1 | exact h.1.1 | exact h.1.1.1)) (fun w' b' ht => next_any w' b' t k3 ht (u.xs.getD 1 0) ⟨by omega, by omega⟩) (fun c1 k4 hc1 hk4 => ?_)
          have hc11 : 0 ≤ c1 ∧ c1 < 2 ∧ c1 < u.xs.getD 1 0 := by have := hc1.1; have := hc1.2.1; have := hc1.2.2; omega
          (repeat' ((conv => whnf) <;> first | (show drawK _ 13 _ _ _ _ _ _; refine draw_tree tabOk mixed [] [] dtGY0 (by kernel_rfl) (by kernel_rfl) (by kernel_rfl) (List.nil_sublist _) ?_) | (show drawK _ 14 _ _ _ _ _ _; refine draw_tree tabOk mixed [25] _ dtGY1 (by kernel_rfl) (by kernel_rfl) (by kernel_rfl) (List.Sublist.cons_cons _ (List.Sublist.cons_cons _ (List.Sublist.cons _ (List.Sublist.refl _)))) ?_) | (show keepK _ _ _ _ _; refine keepB ?_) | (show idxK _ _ _ _ _; refine idx_of _ 0 hua rfl (by omega) ?_) | (show roK _ _ _; refine ro_int hur (j := 0) (by omega) ?_) | (show idxK _ _ _ _ _; refine idx_of _ 1 hua rfl (by omega) ?_) | (show roK _ _ _; refine ro_int hur (j := 1) (by omega) ?_) | (show idxK _ _ _ _ _; refine idx_of _ 2 hua rfl (by omega) ?_) | (show roK _ _ _; refine ro_int hur (j := 2) (by omega) ?_) | (show idxRowK _ _ _ _ _ _; (first | refine idxRow_of 0 rfl (show 0 < 4 by decide) (show 4 ≤ 4 by decide) ?_ | refine idxRow_of 1 rfl (show 1 < 4 by decide) (show 4 ≤ 4 by decide) ?_ | refine idxRow_of 2 rfl (show 2 < 4 by decide) (show 4 ≤ 4 by decide) ?_ | refine idxRow_of 3 rfl (show 3 < 4 by decide) (show 4 ≤ 4 by decide) ?_)) | (show rowK _ _ _ _; refine row_of _ _ rfl rfl ?_) | (show Wp _ _ _ _ _ _ _; refine Wp.go tabOk rfl ?_) | (show @cmpK _ _ _; (first | refine cmpY ?_ | refine cmpN ?_ | (refine cmp_both ?_ ?_ <;> intro _))) | (show wrapK _ _ _; refine wrapA ?_) | (show leK _ _ _; refine leA ?_) | (show roomK _ _ _; refine roomA ?_) | (show ltK _ _ _; refine ltA ?_) | (show _ ∧ _; refine ⟨?_, ?_⟩) | (show keepK _ _ _ _ _; refine keepA ?_) | refine own_keep ?_ | refine ap_old ?_))
          first
            | refine call_num (f := 41) [.int .i64 (2)] t k4 _ (by first | exact List.mem_cons_self | exact List.mem_cons_of_mem _ List.mem_cons_self | (repeat (first | exact List.mem_cons_self | apply List.mem_cons_of_mem))) Try.call41 hs hby hk4 (fun R w' h => rest_holds hd (by first | exact h | exact h.1 | exact h.1.1 | exact h.1.1.1)) (fun w' b' ht => next_any w' b' t k4 ht (2) ⟨by omega, by omega⟩) (fun c2 k5 hc2 hk5 => ?_)
            | refine call_num (f := 41) [.int .i64 (u.xs.getD 2 0)] t k4 _ (by first | exact List.mem_cons_self | exact List.mem_cons_of_mem _ List.mem_cons_self | (repeat (first | exact List.mem_cons_self | apply List.mem_cons_of_mem))) Try.call41 hs hby hk4 (fun R w' h => rest_holds hd (by first | exact h | exact h.1 | exact h.1.1 | exact h.1.1.1)) (fun w' b' ht => next_any w' b' t k4 ht (u.xs.getD 2 0) ⟨by omega, by omega⟩) (fun c2 k5 hc2 hk5 => ?_)
          have hc22 : 0 ≤ c2 ∧ c2 < 2 ∧ c2 < u.xs.getD 2 0 := by have := hc2.1; have := hc2.2.1; have := hc2.2.2; omega
          have m1 : (1 + c0) * u.xs.getD 0 0 ≤ 2 * 2 := Int.mul_le_mul (by omega) (by omega) (by omega) (by omega)
          have n1 : 1 * 1 ≤ (1 + c0) * u.xs.getD 0 0 := Int.mul_le_mul (by omega) (by omega) (by omega) (by omega)
          have m2 : (1 + c0) * u.xs.getD 0 0 * (1 + c1) ≤ 4 * 2 := Int.mul_le_mul m1 (by omega) (by omega) (by omega)
          have n2 : 1 * 1 ≤ (1 + c0) * u.xs.getD 0 0 * (1 + c1) := Int.mul_le_mul n1 (by omega) (by omega) (by omega)
          have m3 : (1 + c0) * u.xs.getD 0 0 * (1 + c1) * (1 + c2) ≤ 8 * 2 := Int.mul_le_mul m2 (by omega) (by omega) (by omega)
          have n3 : 1 * 1 ≤ (1 + c0) * u.xs.getD 0 0 * (1 + c1) * (1 + c2) := Int.mul_le_mul n2 (by omega) (by omega) (by omega)
          (repeat' ((conv => whnf) <;> first | (show drawK _ 13 _ _ _ _ _ _; refine draw_tree tabOk mixed [] [] dtGY0 (by kernel_rfl) (by kernel_rfl) (by kernel_rfl) (List.nil_sublist _) ?_) | (show drawK _ 14 _ _ _ _ _ _; refine draw_tree tabOk mixed [25] _ dtGY1 (by kernel_rfl) (by kernel_rfl) (by kernel_rfl) (List.Sublist.cons_cons _ (List.Sublist.cons_cons _ (List.Sublist.cons _ (List.Sublist.refl _)))) ?_) | (show keepK _ _ _ _ _; refine keepB ?_) | (show idxK _ _ _ _ _; refine idx_of _ 0 hua rfl (by omega) ?_) | (show roK _ _ _; refine ro_int hur (j := 0) (by omega) ?_) | (show idxK _ _ _ _ _; refine idx_of _ 1 hua rfl (by omega) ?_) | (show roK _ _ _; refine ro_int hur (j := 1) (by omega) ?_) | (show idxK _ _ _ _ _; refine idx_of _ 2 hua rfl (by omega) ?_) | (show roK _ _ _; refine ro_int hur (j := 2) (by omega) ?_) | (show idxRowK _ _ _ _ _ _; (first | refine idxRow_of 0 rfl (show 0 < 4 by decide) (show 4 ≤ 4 by decide) ?_ | refine idxRow_of 1 rfl (show 1 < 4 by decide) (show 4 ≤ 4 by decide) ?_ | refine idxRow_of 2 rfl (show 2 < 4 by decide) (show 4 ≤ 4 by decide) ?_ | refine idxRow_of 3 rfl (show 3 < 4 by decide) (show 4 ≤ 4 by decide) ?_)) | (show rowK _ _ _ _; refine row_of _ _ rfl rfl ?_) | (show Wp _ _ _ _ _ _ _; refine Wp.go tabOk rfl ?_) | (show @cmpK _ _ _; (first | refine cmpY ?_ | refine cmpN ?_ | (refine cmp_both ?_ ?_ <;> intro _))) | (show wrapK _ _ _; refine wrapA ?_) | (show leK _ _ _; refine leA ?_) | (show roomK _ _ _; refine roomA ?_) | (show ltK _ _ _; refine ltA ?_) | (show _ ∧ _; refine ⟨?_, ?_⟩) | (show keepK _ _ _ _ _; refine keepA ?_) | refine own_keep ?_ | refine ap_old ?_))
          refine call_t (f := 71) [.int .i64 ((1 + c0) * u.xs.getD 0 0 * (1 + c1) * (1 + c2))] t k5 IntsV.val intsA _ (by first | exact List.mem_cons_self | exact List.mem_cons_of_mem _ List.mem_cons_self | (repeat (first | exact List.mem_cons_self | apply List.mem_cons_of_mem))) Try.call71 hs hby hk5 (fun R w' h => rest_holds hd (by first | exact h | exact h.1 | exact h.1.1 | exact h.1.1.1)) (fun R w' b' ht _ _ => row_any w' b' t k5 ht ((1 + c0) * u.xs.getD 0 0 * (1 + c1) * (1 + c2)) (by omega) (by omega)) (fun d k6 hdd hk6 => ?_)
          (repeat' ((conv => whnf) <;> first | (show drawK _ 13 _ _ _ _ _ _; refine draw_tree tabOk mixed [] [] dtGY0 (by kernel_rfl) (by kernel_rfl) (by kernel_rfl) (List.nil_sublist _) ?_) | (show drawK _ 14 _ _ _ _ _ _; refine draw_tree tabOk mixed [25] _ dtGY1 (by kernel_rfl) (by kernel_rfl) (by kernel_rfl) (List.Sublist.cons_cons _ (List.Sublist.cons_cons _ (List.Sublist.cons _ (List.Sublist.refl _)))) ?_) | (show keepK _ _ _ _ _; refine keepB ?_) | (show idxK _ _ _ _ _; refine idx_of _ 0 hua rfl (by omega) ?_) | (show roK _ _ _; refine ro_int hur (j := 0) (by omega) ?_) | (show idxK _ _ _ _ _; refine idx_of _ 1 hua rfl (by omega) ?_) | (show roK _ _ _; refine ro_int hur (j := 1) (by omega) ?_) | (show idxK _ _ _ _ _; refine idx_of _ 2 hua rfl (by omega) ?_) | (show roK _ _ _; refine ro_int hur (j := 2) (by omega) ?_) | (show idxRowK _ _ _ _ _ _; (first | refine idxRow_of 0 rfl (show 0 < 4 by decide) (show 4 ≤ 4 by decide) ?_ | refine idxRow_of 1 rfl (show 1 < 4 by decide) (show 4 ≤ 4 by decide) ?_ | refine idxRow_of 2 rfl (show 2 < 4 by decide) (show 4 ≤ 4 by decide) ?_ | refine idxRow_of 3 rfl (show 3 < 4 by decide) (show 4 ≤ 4 by decide) ?_)) | (show rowK _ _ _ _; refine row_of _ _ rfl rfl ?_) | (show Wp _ _ _ _ _ _ _; refine Wp.go tabOk rfl ?_) | (show @cmpK _ _ _; (first | refine cmpY ?_ | refine cmpN ?_ | (refine cmp_both ?_ ?_ <;> intro _))) | (show wrapK _ _ _; refine wrapA ?_) | (show leK _ _ _; refine leA ?_) | (show roomK _ _ _; refine roomA ?_) | (show ltK _ _ _; refine ltA ?_) | (show _ ∧ _; refine ⟨?_, ?_⟩) | (show keepK _ _ _ _ _; refine keepA ?_) | refine own_keep ?_ | refine ap_old ?_))
          refine call_t (f := 71) [.int .i64 (1 + c0)] t k6 IntsV.val intsA _ (by first | exact List.mem_cons_self | exact List.mem_cons_of_mem _ List.mem_cons_self | (repeat (first | exact List.mem_cons_self | apply List.mem_cons_of_mem))) Try.call71 hs hby hk6 (fun R w' h => rest_holds hd (by first | exact h | exact h.1 | exact h.1.1 | exact h.1.1.1)) (fun R w' b' ht _ _ => row_any w' b' t k6 ht (1 + c0) (by omega) (by omega)) (fun e k7 hee hk7 => ?_)
          (repeat' ((conv => whnf) <;> first | (show drawK _ 13 _ _ _ _ _ _; refine draw_tree tabOk mixed [] [] dtGY0 (by kernel_rfl) (by kernel_rfl) (by kernel_rfl) (List.nil_sublist _) ?_) | (show drawK _ 14 _ _ _ _ _ _; refine draw_tree tabOk mixed [25] _ dtGY1 (by kernel_rfl) (by kernel_rfl) (by kernel_rfl) (List.Sublist.cons_cons _ (List.Sublist.cons_cons _ (List.Sublist.cons _ (List.Sublist.refl _)))) ?_) | (show keepK _ _ _ _ _; refine keepB ?_) | (show idxK _ _ _ _ _; refine idx_of _ 0 hua rfl (by omega) ?_) | (show roK _ _ _; refine ro_int hur (j := 0) (by omega) ?_) | (show idxK _ _ _ _ _; refine idx_of _ 1 hua rfl (by omega) ?_) | (show roK _ _ _; refine ro_int hur (j := 1) (by omega) ?_) | (show idxK _ _ _ _ _; refine idx_of _ 2 hua rfl (by omega) ?_) | (show roK _ _ _; refine ro_int hur (j := 2) (by omega) ?_) | (show idxRowK _ _ _ _ _ _; (first | refine idxRow_of 0 rfl (show 0 < 4 by decide) (show 4 ≤ 4 by decide) ?_ | refine idxRow_of 1 rfl (show 1 < 4 by decide) (show 4 ≤ 4 by decide) ?_ | refine idxRow_of 2 rfl (show 2 < 4 by decide) (show 4 ≤ 4 by decide) ?_ | refine idxRow_of 3 rfl (show 3 < 4 by decide) (show 4 ≤ 4 by decide) ?_)) | (show rowK _ _ _ _; refine row_of _ _ rfl rfl ?_) | (show Wp _ _ _ _ _ _ _; refine Wp.go tabOk rfl ?_) | (show @cmpK _ _ _; (first | refine cmpY ?_ | refine cmpN ?_ | (refine cmp_both ?_ ?_ <;> intro _))) | (show wrapK _ _ _; refine wrapA ?_) | (show leK _ _ _; refine leA ?_) | (show roomK _ _ _; refine roomA ?_) | (show ltK _ _ _; refine ltA ?_) | (show _ ∧ _; refine ⟨?_, ?_⟩) | (show keepK _ _ _ _ _; refine keepA ?_) | refine own_keep ?_ | refine ap_old ?_))
          conv => whnf
          exact ends_node (by first | exact List.mem_cons_self | exact List.mem_cons_of_mem _ List.mem_cons_self | (repeat (first | exact List.mem_cons_self | apply List.mem_cons_of_mem))) hk7 (fun _ _ h => h.1.1) (fun ρ w' hw => by
            obtain ⟨v, e1, e2, e3, e4⟩ := own_new (xs := [1 + c0, u.xs.getD 0 0, 1 + c1, 1 + c2]) hw (fun _ _ h => h.1.1) (by first | exact List.mem_cons_self | exact List.mem_cons_of_mem _ List.mem_cons_self | (repeat (first | exact List.mem_cons_self | apply List.mem_cons_of_mem))) (by first | exact List.mem_cons_self | exact List.mem_cons_of_mem _ List.mem_cons_self | (repeat (first | exact List.mem_cons_self | apply List.mem_cons_of_mem))) (by decide) rfl (by intro x hx; simp only [List.mem_cons, List.not_mem_nil, or_false] at hx; rcases hx with rfl | rfl | rfl | rfl <;> exact ⟨by omega, by omega⟩) (by simp)
            exact ⟨(⟨4, ((sv.l.length : Int) - 1 - r), 0, v, 0, 0, 0, d, e⟩, false), agg_shape e1, ⟨by rw [hia]; exact good_conv (k0 := 1 + c0) (k2 := 1 + c1) (k3 := 1 + c2) hi2 hgi huo h3 ⟨by omega, by omega⟩ ⟨by omega, by omega, by omega⟩ ⟨by omega, by omega, by omega⟩ e3 e2 hdd.2.2 hee.2.2 (by rw [hdd.1]; omega) (by rw [hee.1]; omega) hdd.2.1 hee.2.1 h24, fun h => (by cases h)⟩, ⟨fun _ => e4, past_new hw (fun _ _ h => h.1.2), past_new hw (fun _ _ h => h.2)⟩⟩)
      · (repeat' ((conv => whnf) <;> first | (show drawK _ 13 _ _ _ _ _ _; refine draw_tree tabOk mixed [] _ dtGY0 (by kernel_rfl) (by kernel_rfl) (by kernel_rfl) (List.Sublist.refl _) ?_) | (show drawK _ 14 _ _ _ _ _ _; refine draw_tree tabOk mixed [25] _ dtGY1 (by kernel_rfl) (by kernel_rfl) (by kernel_rfl) (List.Sublist.refl _) ?_) | (show Wp _ _ _ _ _ _ _; refine Wp.go tabOk rfl ?_) | (show @cmpK _ _ _; (first | refine cmpY ?_ | refine cmpN ?_ | (refine cmp_both ?_ ?_ <;> intro _))) | (show wrapK _ _ _; refine wrapA ?_) | (show leK _ _ _; refine leA ?_) | (show roomK _ _ _; refine roomA ?_) | (show ltK _ _ _; refine ltA ?_) | (show _ ∧ _; refine ⟨?_, ?_⟩) | (show keepK _ _ _ _ _; refine keepA ?_) | refine own_keep ?_ | refine ap_old ?_))
        refine call_num (f := 70) [] t k2 _ (by first | exact List.mem_cons_self | exact List.mem_cons_of_mem _ List.mem_cons_self | (repeat (first | exact List.mem_cons_self | apply List.mem_cons_of_mem))) Try.call70 hs hby hk2 (fun R w' h => rest_holds hd (by first | exact h | exact h.1 | exact h.1.1 | exact h.1.1.1)) (fun w' b' ht => small_any w' b' t k2 ht) (fun y ky hy hky => ?_)
        (repeat' ((conv => whnf) <;> first | (show drawK _ 13 _ _ _ _ _ _; refine draw_tree tabOk mixed [] _ dtGY0 (by kernel_rfl) (by kernel_rfl) (by kernel_rfl) (List.Sublist.refl _) ?_) | (show drawK _ 14 _ _ _ _ _ _; refine draw_tree tabOk mixed [25] _ dtGY1 (by kernel_rfl) (by kernel_rfl) (by kernel_rfl) (List.Sublist.refl _) ?_) | (show Wp _ _ _ _ _ _ _; refine Wp.go tabOk rfl ?_) | (show @cmpK _ _ _; (first | refine cmpY ?_ | refine cmpN ?_ | (refine cmp_both ?_ ?_ <;> intro _))) | (show wrapK _ _ _; refine wrapA ?_) | (show leK _ _ _; refine leA ?_) | (show roomK _ _ _; refine roomA ?_) | (show ltK _ _ _; refine ltA ?_) | (show _ ∧ _; refine ⟨?_, ?_⟩) | (show keepK _ _ _ _ _; refine keepA ?_) | refine own_keep ?_ | refine ap_old ?_))
        conv => whnf
        exact ends_node (by first | exact List.mem_cons_self | exact List.mem_cons_of_mem _ List.mem_cons_self | (repeat (first | exact List.mem_cons_self | apply List.mem_cons_of_mem))) hky (fun _ _ h => h) (fun ρ w' hw => by
          obtain ⟨d, e1, e2, e3, e4⟩ := own_new (xs := [y]) hw (fun _ _ h => h) (by first | exact List.mem_cons_self | exact List.mem_cons_of_mem _ List.mem_cons_self | (repeat (first | exact List.mem_cons_self | apply List.mem_cons_of_mem))) (by first | exact List.mem_cons_self | exact List.mem_cons_of_mem _ List.mem_cons_self | (repeat (first | exact List.mem_cons_self | apply List.mem_cons_of_mem))) (by decide) rfl (small_i64 (smallL1 hy)) (by simp)
          exact ⟨(⟨7, ((sv.l.length : Int) - 1 - r), 0, nilI, 0, 0, 0, d, nilI⟩, false), agg_data e1, ⟨by rw [hia]; exact good_scale hi2 hgi huo e3 (by rw [e2]; rfl) (e2 ▸ smallL1 hy) h24, fun h => (by cases h)⟩, ⟨fun _ => nilI_holds _ _, e4, nilI_holds _ _⟩⟩)
    · by_cases h3 : u.xs.length = 3
      · obtain ⟨_, _, _, p1, p2, _, p3, p4⟩ := dims3 huo h3
        obtain ⟨ua, hua⟩ : ∃ a, u.base = some a := base_some (j := 0) (rowsA_in (hsv.2 u hum)) (by rw [ints_length]; omega)
        have hur : ∀ (R : Nat → Prop) w', (restA w b).holds R w' → RowsI w' (some ua) 1 (ints u.xs) := fun R w' h => by rw [← hua]; exact rowsA_in ((rest_holds hsv h).2 u hum)
        by_cases hev : u.xs.getD 1 0 % 2 = 0 ∧ u.xs.getD 2 0 % 2 = 0
        · (repeat' ((conv => whnf) <;> first | (show idxK _ _ _ _ _; refine idx_of _ 0 hua rfl (by omega) ?_) | (show roK _ _ _; refine ro_int hur (j := 0) (by omega) ?_) | (show idxK _ _ _ _ _; refine idx_of _ 1 hua rfl (by omega) ?_) | (show roK _ _ _; refine ro_int hur (j := 1) (by omega) ?_) | (show idxK _ _ _ _ _; refine idx_of _ 2 hua rfl (by omega) ?_) | (show roK _ _ _; refine ro_int hur (j := 2) (by omega) ?_) | (show remK _ _ _; refine rem_pos (by omega) (by omega) ?_) | (show drawK _ 13 _ _ _ _ _ _; refine draw_tree tabOk mixed [] _ dtGY0 (by kernel_rfl) (by kernel_rfl) (by kernel_rfl) (List.Sublist.refl _) ?_) | (show drawK _ 14 _ _ _ _ _ _; refine draw_tree tabOk mixed [25] _ dtGY1 (by kernel_rfl) (by kernel_rfl) (by kernel_rfl) (List.Sublist.refl _) ?_) | (show Wp _ _ _ _ _ _ _; refine Wp.go tabOk rfl ?_) | (show @cmpK _ _ _; (first | refine cmpY ?_ | refine cmpN ?_ | (refine cmp_both ?_ ?_ <;> intro _))) | (show wrapK _ _ _; refine wrapA ?_) | (show leK _ _ _; refine leA ?_) | (show roomK _ _ _; refine roomA ?_) | (show ltK _ _ _; refine ltA ?_) | (show _ ∧ _; refine ⟨?_, ?_⟩) | (show keepK _ _ _ _ _; refine keepA ?_) | refine own_keep ?_ | refine ap_old ?_))
          conv => whnf
          exact ends_node (by first | exact List.mem_cons_self | exact List.mem_cons_of_mem _ List.mem_cons_self | (repeat (first | exact List.mem_cons_self | apply List.mem_cons_of_mem))) hk2 (fun _ _ h => h) (fun ρ w' hw => ⟨(⟨5, ((sv.l.length : Int) - 1 - r), 0, nilI, 0, 0, 2, nilI, nilI⟩, false), rfl, ⟨by rw [hia]; exact good_pool hi2 hgi huo h3 hev.1 hev.2 h24, fun h => (by cases h)⟩, ⟨fun _ => nilI_holds _ _, nilI_holds _ _, nilI_holds _ _⟩⟩)
        · (repeat' ((conv => whnf) <;> first | (show idxK _ _ _ _ _; refine idx_of _ 0 hua rfl (by omega) ?_) | (show roK _ _ _; refine ro_int hur (j := 0) (by omega) ?_) | (show idxK _ _ _ _ _; refine idx_of _ 1 hua rfl (by omega) ?_) | (show roK _ _ _; refine ro_int hur (j := 1) (by omega) ?_) | (show idxK _ _ _ _ _; refine idx_of _ 2 hua rfl (by omega) ?_) | (show roK _ _ _; refine ro_int hur (j := 2) (by omega) ?_) | (show remK _ _ _; refine rem_pos (by omega) (by omega) ?_) | (show drawK _ 13 _ _ _ _ _ _; refine draw_tree tabOk mixed [] _ dtGY0 (by kernel_rfl) (by kernel_rfl) (by kernel_rfl) (List.Sublist.refl _) ?_) | (show drawK _ 14 _ _ _ _ _ _; refine draw_tree tabOk mixed [25] _ dtGY1 (by kernel_rfl) (by kernel_rfl) (by kernel_rfl) (List.Sublist.refl _) ?_) | (show Wp _ _ _ _ _ _ _; refine Wp.go tabOk rfl ?_) | (show @cmpK _ _ _; (first | refine cmpY ?_ | refine cmpN ?_ | (refine cmp_both ?_ ?_ <;> intro _))) | (show wrapK _ _ _; refine wrapA ?_) | (show leK _ _ _; refine leA ?_) | (show roomK _ _ _; refine roomA ?_) | (show ltK _ _ _; refine ltA ?_) | (show _ ∧ _; refine ⟨?_, ?_⟩) | (show keepK _ _ _ _ _; refine keepA ?_) | refine own_keep ?_ | refine ap_old ?_))
          all_goals
            refine call_num (f := 70) [] t k2 _ (by first | exact List.mem_cons_self | exact List.mem_cons_of_mem _ List.mem_cons_self | (repeat (first | exact List.mem_cons_self | apply List.mem_cons_of_mem))) Try.call70 hs hby hk2 (fun R w' h => rest_holds hd (by first | exact h | exact h.1 | exact h.1.1 | exact h.1.1.1)) (fun w' b' ht => small_any w' b' t k2 ht) (fun y ky hy hky => ?_)
            (repeat' ((conv => whnf) <;> first | (show drawK _ 13 _ _ _ _ _ _; refine draw_tree tabOk mixed [] _ dtGY0 (by kernel_rfl) (by kernel_rfl) (by kernel_rfl) (List.Sublist.refl _) ?_) | (show drawK _ 14 _ _ _ _ _ _; refine draw_tree tabOk mixed [25] _ dtGY1 (by kernel_rfl) (by kernel_rfl) (by kernel_rfl) (List.Sublist.refl _) ?_) | (show Wp _ _ _ _ _ _ _; refine Wp.go tabOk rfl ?_) | (show @cmpK _ _ _; (first | refine cmpY ?_ | refine cmpN ?_ | (refine cmp_both ?_ ?_ <;> intro _))) | (show wrapK _ _ _; refine wrapA ?_) | (show leK _ _ _; refine leA ?_) | (show roomK _ _ _; refine roomA ?_) | (show ltK _ _ _; refine ltA ?_) | (show _ ∧ _; refine ⟨?_, ?_⟩) | (show keepK _ _ _ _ _; refine keepA ?_) | refine own_keep ?_ | refine ap_old ?_))
            conv => whnf
            exact ends_node (by first | exact List.mem_cons_self | exact List.mem_cons_of_mem _ List.mem_cons_self | (repeat (first | exact List.mem_cons_self | apply List.mem_cons_of_mem))) hky (fun _ _ h => h) (fun ρ w' hw => by
              obtain ⟨d, e1, e2, e3, e4⟩ := own_new (xs := [y]) hw (fun _ _ h => h) (by first | exact List.mem_cons_self | exact List.mem_cons_of_mem _ List.mem_cons_self | (repeat (first | exact List.mem_cons_self | apply List.mem_cons_of_mem))) (by first | exact List.mem_cons_self | exact List.mem_cons_of_mem _ List.mem_cons_self | (repeat (first | exact List.mem_cons_self | apply List.mem_cons_of_mem))) (by decide) rfl (small_i64 (smallL1 hy)) (by simp)
              exact ⟨(⟨7, ((sv.l.length : Int) - 1 - r), 0, nilI, 0, 0, 0, d, nilI⟩, false), agg_data e1, ⟨by rw [hia]; exact good_scale hi2 hgi huo e3 (by rw [e2]; rfl) (e2 ▸ smallL1 hy) h24, fun h => (by cases h)⟩, ⟨fun _ => nilI_holds _ _, e4, nilI_holds _ _⟩⟩)
      · (repeat' ((conv => whnf) <;> first | (show drawK _ 13 _ _ _ _ _ _; refine draw_tree tabOk mixed [] _ dtGY0 (by kernel_rfl) (by kernel_rfl) (by kernel_rfl) (List.Sublist.refl _) ?_) | (show drawK _ 14 _ _ _ _ _ _; refine draw_tree tabOk mixed [25] _ dtGY1 (by kernel_rfl) (by kernel_rfl) (by kernel_rfl) (List.Sublist.refl _) ?_) | (show Wp _ _ _ _ _ _ _; refine Wp.go tabOk rfl ?_) | (show @cmpK _ _ _; (first | refine cmpY ?_ | refine cmpN ?_ | (refine cmp_both ?_ ?_ <;> intro _))) | (show wrapK _ _ _; refine wrapA ?_) | (show leK _ _ _; refine leA ?_) | (show roomK _ _ _; refine roomA ?_) | (show ltK _ _ _; refine ltA ?_) | (show _ ∧ _; refine ⟨?_, ?_⟩) | (show keepK _ _ _ _ _; refine keepA ?_) | refine own_keep ?_ | refine ap_old ?_))
        refine call_num (f := 70) [] t k2 _ (by first | exact List.mem_cons_self | exact List.mem_cons_of_mem _ List.mem_cons_self | (repeat (first | exact List.mem_cons_self | apply List.mem_cons_of_mem))) Try.call70 hs hby hk2 (fun R w' h => rest_holds hd (by first | exact h | exact h.1 | exact h.1.1 | exact h.1.1.1)) (fun w' b' ht => small_any w' b' t k2 ht) (fun y ky hy hky => ?_)
        (repeat' ((conv => whnf) <;> first | (show drawK _ 13 _ _ _ _ _ _; refine draw_tree tabOk mixed [] _ dtGY0 (by kernel_rfl) (by kernel_rfl) (by kernel_rfl) (List.Sublist.refl _) ?_) | (show drawK _ 14 _ _ _ _ _ _; refine draw_tree tabOk mixed [25] _ dtGY1 (by kernel_rfl) (by kernel_rfl) (by kernel_rfl) (List.Sublist.refl _) ?_) | (show Wp _ _ _ _ _ _ _; refine Wp.go tabOk rfl ?_) | (show @cmpK _ _ _; (first | refine cmpY ?_ | refine cmpN ?_ | (refine cmp_both ?_ ?_ <;> intro _))) | (show wrapK _ _ _; refine wrapA ?_) | (show leK _ _ _; refine leA ?_) | (show roomK _ _ _; refine roomA ?_) | (show ltK _ _ _; refine ltA ?_) | (show _ ∧ _; refine ⟨?_, ?_⟩) | (show keepK _ _ _ _ _; refine keepA ?_) | refine own_keep ?_ | refine ap_old ?_))
        conv => whnf
        exact ends_node (by first | exact List.mem_cons_self | exact List.mem_cons_of_mem _ List.mem_cons_self | (repeat (first | exact List.mem_cons_self | apply List.mem_cons_of_mem))) hky (fun _ _ h => h) (fun ρ w' hw => by
          obtain ⟨d, e1, e2, e3, e4⟩ := own_new (xs := [y]) hw (fun _ _ h => h) (by first | exact List.mem_cons_self | exact List.mem_cons_of_mem _ List.mem_cons_self | (repeat (first | exact List.mem_cons_self | apply List.mem_cons_of_mem))) (by first | exact List.mem_cons_self | exact List.mem_cons_of_mem _ List.mem_cons_self | (repeat (first | exact List.mem_cons_self | apply List.mem_cons_of_mem))) (by decide) rfl (small_i64 (smallL1 hy)) (by simp)
          exact ⟨(⟨7, ((sv.l.length : Int) - 1 - r), 0, nilI, 0, 0, 0, d, nilI⟩, false), agg_data e1, ⟨by rw [hia]; exact good_scale hi2 hgi huo e3 (by rw [e2]; rfl) (e2 ▸ smallL1 hy) h24, fun h => (by cases h)⟩, ⟨fun _ => nilI_holds _ _, e4, nilI_holds _ _⟩⟩)
    · (repeat' ((conv => whnf) <;> first | (show drawK _ 13 _ _ _ _ _ _; refine draw_tree tabOk mixed [] _ dtGY0 (by kernel_rfl) (by kernel_rfl) (by kernel_rfl) (List.Sublist.refl _) ?_) | (show drawK _ 14 _ _ _ _ _ _; refine draw_tree tabOk mixed [25] _ dtGY1 (by kernel_rfl) (by kernel_rfl) (by kernel_rfl) (List.Sublist.refl _) ?_) | (show Wp _ _ _ _ _ _ _; refine Wp.go tabOk rfl ?_) | (show @cmpK _ _ _; (first | refine cmpY ?_ | refine cmpN ?_ | (refine cmp_both ?_ ?_ <;> intro _))) | (show wrapK _ _ _; refine wrapA ?_) | (show leK _ _ _; refine leA ?_) | (show roomK _ _ _; refine roomA ?_) | (show ltK _ _ _; refine ltA ?_) | (show _ ∧ _; refine ⟨?_, ?_⟩) | (show keepK _ _ _ _ _; refine keepA ?_) | refine own_keep ?_ | refine ap_old ?_))
      refine Wp.loop (σ := Nat × Nat) 2 (fun ⟨j, _⟩ => [(126, .c (.int .i64 sv.l.length)), (127, .c (.int .i64 j)), (0, .lp 0 0 0 0), (1, .c sv.val), (6, .c u.val), (5, .c (.int .i64 ((sv.l.length : Int) - 1 - r))), (4, .lp 1 0 0 0)]) (fun ⟨_, kt⟩ => [(1, .box (cs [.int .i64 0, .int .i64 0, .int .i64 0, .slice none 0 0, .int .i64 0, .int .i64 0, .int .i64 0, .slice none 0 0, .slice none 0 0]) 38), (0, .box (cs (tcells t kt)) 30)]) (fun _ => restA w b)
        (fun ⟨j, kt⟩ => j ≤ sv.l.length ∧ kt ≤ t.bs.length) (fun s => sv.l.length - s.1) (0, k2) [] (by decide) (fun s => ⟨rfl, rfl⟩) ⟨by simp, hk2⟩ ⟨rfl, ⟨rfl, rfl, rfl, rfl, rfl, rfl, rfl, trivial⟩, ⟨List.mem_cons_self, List.mem_cons_of_mem _ List.mem_cons_self, trivial⟩, fun _ _ h => h⟩ ?_
      rintro ⟨j, kt⟩ ⟨hj, hkt⟩
      by_cases hlt : j < sv.l.length
      · have hgj := shapes_get hlt
        have hvm := List.getElem_mem hlt
        have hrowj := shRows_get hlt
        generalize sv.l[j] = v at *
        have hj2 : j < (sv.l.map (·.xs)).length := by rw [hlm]; exact hlt
        (repeat' ((conv => whnf) <;> first | (show idxK _ _ _ _ _; refine idx_of sb j hsb rfl hlt ?_) | (show roK _ _ _; (refine ro_row0 (fun R w' h => by rw [← hsb]; exact rowsA_in (rest_holds hsv h).1) _ _ hrowj rfl ?_)) | (show callK _ 26 _ _ _ _ _; ((refine call_bool (f := 26) Try.call26 _ (fun ρ w' hw => same_any w' v u (holds_of_abs hw fun R h => intsA_ok (hsane v hvm) ((rest_holds hsv h).2 v hvm)) (holds_of_abs hw fun R h => intsA_ok hus ((rest_holds hsv h).2 u hum))) ?_ ?_ <;> intro he))) | (show callK _ 41 _ _ _ _ _; (refine call_num (f := 41) [.int .i64 2] t kt _ (by first | exact List.mem_cons_self | exact List.mem_cons_of_mem _ List.mem_cons_self | (repeat (first | exact List.mem_cons_self | apply List.mem_cons_of_mem))) Try.call41 hs hby hkt (fun R w' h => rest_holds hd (by first | exact h | exact h.1 | exact h.1.1 | exact h.1.1.1)) (fun w' b' ht => next_any w' b' t kt ht 2 ⟨by decide, by decide⟩) (fun z k3 hz hk3 => ?_))) | (show drawK _ 13 _ _ _ _ _ _; refine draw_tree tabOk mixed [] _ dtGY0 (by kernel_rfl) (by kernel_rfl) (by kernel_rfl) (List.Sublist.refl _) ?_) | (show drawK _ 14 _ _ _ _ _ _; refine draw_tree tabOk mixed [25] _ dtGY1 (by kernel_rfl) (by kernel_rfl) (by kernel_rfl) (List.Sublist.refl _) ?_) | (show Wp _ _ _ _ _ _ _; refine Wp.go tabOk rfl ?_) | (show @cmpK _ _ _; (first | refine cmpY ?_ | refine cmpN ?_ | (refine cmp_both ?_ ?_ <;> intro _))) | (show wrapK _ _ _; refine wrapA ?_) | (show leK _ _ _; refine leA ?_) | (show roomK _ _ _; refine roomA ?_) | (show ltK _ _ _; refine ltA ?_) | (show _ ∧ _; refine ⟨?_, ?_⟩) | (show keepK _ _ _ _ _; refine keepA ?_) | refine own_keep ?_ | refine ap_old ?_))
        · conv => whnf
          exact ends_node (by first | exact List.mem_cons_self | exact List.mem_cons_of_mem _ List.mem_cons_self | (repeat (first | exact List.mem_cons_self | apply List.mem_cons_of_mem))) hk3 (fun _ _ h => h) (fun ρ w' hw => ⟨(⟨6, ((sv.l.length : Int) - 1 - r), j, nilI, 0, 0, 0, nilI, nilI⟩, false), rfl, ⟨by rw [hia]; exact good_add hi2 hj2 hgi (hgj.trans (of_decide_eq_true he)) huo h24, fun h => (by cases h)⟩, ⟨fun _ => nilI_holds _ _, nilI_holds _ _, nilI_holds _ _⟩⟩)
        · exact ⟨(j + 1, k3), [], ⟨hlt, hk3⟩, by simp only; omega, rfl, ⟨rfl, rfl, rfl, rfl, rfl, rfl, rfl, trivial⟩, ⟨List.mem_cons_self, List.mem_cons_of_mem _ List.mem_cons_self, trivial⟩, fun _ _ h => h⟩
        · exact ⟨(j + 1, kt), [], ⟨hlt, hkt⟩, by simp only; omega, rfl, ⟨rfl, rfl, rfl, rfl, rfl, rfl, rfl, trivial⟩, ⟨List.mem_cons_self, List.mem_cons_of_mem _ List.mem_cons_self, trivial⟩, fun _ _ h => h⟩
      · (repeat' ((conv => whnf) <;> first | (show drawK _ 13 _ _ _ _ _ _; refine draw_tree tabOk mixed [] _ dtGY0 (by kernel_rfl) (by kernel_rfl) (by kernel_rfl) (List.Sublist.refl _) ?_) | (show drawK _ 14 _ _ _ _ _ _; refine draw_tree tabOk mixed [25] _ dtGY1 (by kernel_rfl) (by kernel_rfl) (by kernel_rfl) (List.Sublist.refl _) ?_) | (show Wp _ _ _ _ _ _ _; refine Wp.go tabOk rfl ?_) | (show @cmpK _ _ _; (first | refine cmpY ?_ | refine cmpN ?_ | (refine cmp_both ?_ ?_ <;> intro _))) | (show wrapK _ _ _; refine wrapA ?_) | (show leK _ _ _; refine leA ?_) | (show roomK _ _ _; refine roomA ?_) | (show ltK _ _ _; refine ltA ?_) | (show _ ∧ _; refine ⟨?_, ?_⟩) | (show keepK _ _ _ _ _; refine keepA ?_) | refine own_keep ?_ | refine ap_old ?_))
        conv => whnf
        exact ends_node (by first | exact List.mem_cons_self | exact List.mem_cons_of_mem _ List.mem_cons_self | (repeat (first | exact List.mem_cons_self | apply List.mem_cons_of_mem))) hkt (fun _ _ h => h) (fun ρ w' hw => ⟨(⟨6, ((sv.l.length : Int) - 1 - r), ((sv.l.length : Int) - 1 - r), nilI, 0, 0, 0, nilI, nilI⟩, false), rfl, ⟨by rw [hia]; exact good_add hi2 hi2 hgi hgi huo h24, fun h => (by cases h)⟩, ⟨fun _ => nilI_holds _ _, nilI_holds _ _, nilI_holds _ _⟩⟩)
    · (repeat' ((conv => whnf) <;> first | (show drawK _ 13 _ _ _ _ _ _; refine draw_tree tabOk mixed [] _ dtGY0 (by kernel_rfl) (by kernel_rfl) (by kernel_rfl) (List.Sublist.refl _) ?_) | (show drawK _ 14 _ _ _ _ _ _; refine draw_tree tabOk mixed [25] _ dtGY1 (by kernel_rfl) (by kernel_rfl) (by kernel_rfl) (List.Sublist.refl _) ?_) | (show Wp _ _ _ _ _ _ _; refine Wp.go tabOk rfl ?_) | (show @cmpK _ _ _; (first | refine cmpY ?_ | refine cmpN ?_ | (refine cmp_both ?_ ?_ <;> intro _))) | (show wrapK _ _ _; refine wrapA ?_) | (show leK _ _ _; refine leA ?_) | (show roomK _ _ _; refine roomA ?_) | (show ltK _ _ _; refine ltA ?_) | (show _ ∧ _; refine ⟨?_, ?_⟩) | (show keepK _ _ _ _ _; refine keepA ?_) | refine own_keep ?_ | refine ap_old ?_))
      refine call_num (f := 70) [] t k2 _ (by first | exact List.mem_cons_self | exact List.mem_cons_of_mem _ List.mem_cons_self | (repeat (first | exact List.mem_cons_self | apply List.mem_cons_of_mem))) Try.call70 hs hby hk2 (fun R w' h => rest_holds hd (by first | exact h | exact h.1 | exact h.1.1 | exact h.1.1.1)) (fun w' b' ht => small_any w' b' t k2 ht) (fun x k3 hx hk3 => ?_)
      (repeat' ((conv => whnf) <;> first | (show drawK _ 13 _ _ _ _ _ _; refine draw_tree tabOk mixed [] _ dtGY0 (by kernel_rfl) (by kernel_rfl) (by kernel_rfl) (List.Sublist.refl _) ?_) | (show drawK _ 14 _ _ _ _ _ _; refine draw_tree tabOk mixed [25] _ dtGY1 (by kernel_rfl) (by kernel_rfl) (by kernel_rfl) (List.Sublist.refl _) ?_) | (show Wp _ _ _ _ _ _ _; refine Wp.go tabOk rfl ?_) | (show @cmpK _ _ _; (first | refine cmpY ?_ | refine cmpN ?_ | (refine cmp_both ?_ ?_ <;> intro _))) | (show wrapK _ _ _; refine wrapA ?_) | (show leK _ _ _; refine leA ?_) | (show roomK _ _ _; refine roomA ?_) | (show ltK _ _ _; refine ltA ?_) | (show _ ∧ _; refine ⟨?_, ?_⟩) | (show keepK _ _ _ _ _; refine keepA ?_) | refine own_keep ?_ | refine ap_old ?_))
      refine call_num (f := 70) [] t k3 _ (by first | exact List.mem_cons_self | exact List.mem_cons_of_mem _ List.mem_cons_self | (repeat (first | exact List.mem_cons_self | apply List.mem_cons_of_mem))) Try.call70 hs hby hk3 (fun R w' h => rest_holds hd (by first | exact h | exact h.1 | exact h.1.1 | exact h.1.1.1)) (fun w' b' ht => small_any w' b' t k3 ht) (fun y k4 hy hk4 => ?_)
      (repeat' ((conv => whnf) <;> first | (show drawK _ 13 _ _ _ _ _ _; refine draw_tree tabOk mixed [] _ dtGY0 (by kernel_rfl) (by kernel_rfl) (by kernel_rfl) (List.Sublist.refl _) ?_) | (show drawK _ 14 _ _ _ _ _ _; refine draw_tree tabOk mixed [25] _ dtGY1 (by kernel_rfl) (by kernel_rfl) (by kernel_rfl) (List.Sublist.refl _) ?_) | (show Wp _ _ _ _ _ _ _; refine Wp.go tabOk rfl ?_) | (show @cmpK _ _ _; (first | refine cmpY ?_ | refine cmpN ?_ | (refine cmp_both ?_ ?_ <;> intro _))) | (show wrapK _ _ _; refine wrapA ?_) | (show leK _ _ _; refine leA ?_) | (show roomK _ _ _; refine roomA ?_) | (show ltK _ _ _; refine ltA ?_) | (show _ ∧ _; refine ⟨?_, ?_⟩) | (show keepK _ _ _ _ _; refine keepA ?_) | refine own_keep ?_ | refine ap_old ?_))
      refine call_num (f := 41) [.int .i64 3] t k4 _ (by first | exact List.mem_cons_self | exact List.mem_cons_of_mem _ List.mem_cons_self | (repeat (first | exact List.mem_cons_self | apply List.mem_cons_of_mem))) Try.call41 hs hby hk4 (fun R w' h => rest_holds hd (by first | exact h | exact h.1 | exact h.1.1 | exact h.1.1.1)) (fun w' b' ht => next_any w' b' t k4 ht 3 ⟨by omega, by omega⟩) (fun z k5 hz hk5 => ?_)
      have hz0 := hz.1
      have hz1 := hz.2.1 (by omega)
      have hz2 : -4 ≤ z - 1 ∧ z - 1 ≤ 4 := by omega
      (repeat' ((conv => whnf) <;> first | (show drawK _ 13 _ _ _ _ _ _; refine draw_tree tabOk mixed [] _ dtGY0 (by kernel_rfl) (by kernel_rfl) (by kernel_rfl) (List.Sublist.refl _) ?_) | (show drawK _ 14 _ _ _ _ _ _; refine draw_tree tabOk mixed [25] _ dtGY1 (by kernel_rfl) (by kernel_rfl) (by kernel_rfl) (List.Sublist.refl _) ?_) | (show Wp _ _ _ _ _ _ _; refine Wp.go tabOk rfl ?_) | (show @cmpK _ _ _; (first | refine cmpY ?_ | refine cmpN ?_ | (refine cmp_both ?_ ?_ <;> intro _))) | (show wrapK _ _ _; refine wrapA ?_) | (show leK _ _ _; refine leA ?_) | (show roomK _ _ _; refine roomA ?_) | (show ltK _ _ _; refine ltA ?_) | (show _ ∧ _; refine ⟨?_, ?_⟩) | (show keepK _ _ _ _ _; refine keepA ?_) | refine own_keep ?_ | refine ap_old ?_))
      conv => whnf
      exact ends_node (by first | exact List.mem_cons_self | exact List.mem_cons_of_mem _ List.mem_cons_self | (repeat (first | exact List.mem_cons_self | apply List.mem_cons_of_mem))) hk5 (fun _ _ h => h) (fun ρ w' hw => by
        obtain ⟨d, e1, e2, e3, e4⟩ := own_new (xs := [x, y, z - 1]) hw (fun _ _ h => h) (by first | exact List.mem_cons_self | exact List.mem_cons_of_mem _ List.mem_cons_self | (repeat (first | exact List.mem_cons_self | apply List.mem_cons_of_mem))) (by first | exact List.mem_cons_self | exact List.mem_cons_of_mem _ List.mem_cons_self | (repeat (first | exact List.mem_cons_self | apply List.mem_cons_of_mem))) (by decide) rfl (small_i64 (smallL3 hx hy hz2)) (by simp)
        exact ⟨(⟨8, ((sv.l.length : Int) - 1 - r), 0, nilI, 0, 0, 0, d, nilI⟩, false), agg_data e1, ⟨by rw [hia]; exact good_power hi2 hgi huo e3 (by rw [e2]; rfl) (e2 ▸ smallL3 hx hy hz2) h24, fun h => (by cases h)⟩, ⟨fun _ => nilI_holds _ _, e4, nilI_holds _ _⟩⟩)
    · (repeat' ((conv => whnf) <;> first | (show drawK _ 13 _ _ _ _ _ _; refine draw_tree tabOk mixed [] _ dtGY0 (by kernel_rfl) (by kernel_rfl) (by kernel_rfl) (List.Sublist.refl _) ?_) | (show drawK _ 14 _ _ _ _ _ _; refine draw_tree tabOk mixed [25] _ dtGY1 (by kernel_rfl) (by kernel_rfl) (by kernel_rfl) (List.Sublist.refl _) ?_) | (show Wp _ _ _ _ _ _ _; refine Wp.go tabOk rfl ?_) | (show @cmpK _ _ _; (first | refine cmpY ?_ | refine cmpN ?_ | (refine cmp_both ?_ ?_ <;> intro _))) | (show wrapK _ _ _; refine wrapA ?_) | (show leK _ _ _; refine leA ?_) | (show roomK _ _ _; refine roomA ?_) | (show ltK _ _ _; refine ltA ?_) | (show _ ∧ _; refine ⟨?_, ?_⟩) | (show keepK _ _ _ _ _; refine keepA ?_) | refine own_keep ?_ | refine ap_old ?_))
      conv => whnf
      exact ends_node (by first | exact List.mem_cons_self | exact List.mem_cons_of_mem _ List.mem_cons_self | (repeat (first | exact List.mem_cons_self | apply List.mem_cons_of_mem))) hk2 (fun _ _ h => h) (fun ρ w' hw => by
        obtain ⟨d, e1, e2, e3, e4⟩ := own_new (xs := [entries u.xs]) hw (fun _ _ h => h) (by first | exact List.mem_cons_self | exact List.mem_cons_of_mem _ List.mem_cons_self | (repeat (first | exact List.mem_cons_self | apply List.mem_cons_of_mem))) (by first | exact List.mem_cons_self | exact List.mem_cons_of_mem _ List.mem_cons_self | (repeat (first | exact List.mem_cons_self | apply List.mem_cons_of_mem))) (by decide) rfl (by intro x hx; rw [List.mem_singleton] at hx; subst hx; exact ⟨by omega, by omega⟩) (by simp)
        exact ⟨(⟨9, ((sv.l.length : Int) - 1 - r), 0, d, 0, 0, 0, nilI, nilI⟩, false), agg_shape e1, ⟨by rw [hia]; exact good_flat hi2 hgi huo e3 e2 h24, fun h => (by cases h)⟩, ⟨fun _ => e4, nilI_holds _ _, nilI_holds _ _⟩⟩)
    · (repeat' ((conv => whnf) <;> first | (show drawK _ 13 _ _ _ _ _ _; refine draw_tree tabOk mixed [] _ dtGY0 (by kernel_rfl) (by kernel_rfl) (by kernel_rfl) (List.Sublist.refl _) ?_) | (show drawK _ 14 _ _ _ _ _ _; refine draw_tree tabOk mixed [25] _ dtGY1 (by kernel_rfl) (by kernel_rfl) (by kernel_rfl) (List.Sublist.refl _) ?_) | (show Wp _ _ _ _ _ _ _; refine Wp.go tabOk rfl ?_) | (show @cmpK _ _ _; (first | refine cmpY ?_ | refine cmpN ?_ | (refine cmp_both ?_ ?_ <;> intro _))) | (show wrapK _ _ _; refine wrapA ?_) | (show leK _ _ _; refine leA ?_) | (show roomK _ _ _; refine roomA ?_) | (show ltK _ _ _; refine ltA ?_) | (show _ ∧ _; refine ⟨?_, ?_⟩) | (show keepK _ _ _ _ _; refine keepA ?_) | refine own_keep ?_ | refine ap_old ?_))
      refine call_num (f := 70) [] t k2 _ (by first | exact List.mem_cons_self | exact List.mem_cons_of_mem _ List.mem_cons_self | (repeat (first | exact List.mem_cons_self | apply List.mem_cons_of_mem))) Try.call70 hs hby hk2 (fun R w' h => rest_holds hd (by first | exact h | exact h.1 | exact h.1.1 | exact h.1.1.1)) (fun w' b' ht => small_any w' b' t k2 ht) (fun y ky hy hky => ?_)
      (repeat' ((conv => whnf) <;> first | (show drawK _ 13 _ _ _ _ _ _; refine draw_tree tabOk mixed [] _ dtGY0 (by kernel_rfl) (by kernel_rfl) (by kernel_rfl) (List.Sublist.refl _) ?_) | (show drawK _ 14 _ _ _ _ _ _; refine draw_tree tabOk mixed [25] _ dtGY1 (by kernel_rfl) (by kernel_rfl) (by kernel_rfl) (List.Sublist.refl _) ?_) | (show Wp _ _ _ _ _ _ _; refine Wp.go tabOk rfl ?_) | (show @cmpK _ _ _; (first | refine cmpY ?_ | refine cmpN ?_ | (refine cmp_both ?_ ?_ <;> intro _))) | (show wrapK _ _ _; refine wrapA ?_) | (show leK _ _ _; refine leA ?_) | (show roomK _ _ _; refine roomA ?_) | (show ltK _ _ _; refine ltA ?_) | (show _ ∧ _; refine ⟨?_, ?_⟩) | (show keepK _ _ _ _ _; refine keepA ?_) | refine own_keep ?_ | refine ap_old ?_))
      conv => whnf
      exact ends_node (by first | exact List.mem_cons_self | exact List.mem_cons_of_mem _ List.mem_cons_self | (repeat (first | exact List.mem_cons_self | apply List.mem_cons_of_mem))) hky (fun _ _ h => h) (fun ρ w' hw => by
        obtain ⟨d, e1, e2, e3, e4⟩ := own_new (xs := [y]) hw (fun _ _ h => h) (by first | exact List.mem_cons_self | exact List.mem_cons_of_mem _ List.mem_cons_self | (repeat (first | exact List.mem_cons_self | apply List.mem_cons_of_mem))) (by first | exact List.mem_cons_self | exact List.mem_cons_of_mem _ List.mem_cons_self | (repeat (first | exact List.mem_cons_self | apply List.mem_cons_of_mem))) (by decide) rfl (small_i64 (smallL1 hy)) (by simp)
        exact ⟨(⟨7, ((sv.l.length : Int) - 1 - r), 0, nilI, 0, 0, 0, d, nilI⟩, false), agg_data e1, ⟨by rw [hia]; exact good_scale hi2 hgi huo e3 (by rw [e2]; rfl) (e2 ▸ smallL1 hy) h24, fun h => (by cases h)⟩, ⟨fun _ => nilI_holds _ _, e4, nilI_holds _ _⟩⟩)
end Go.Proofs.Ytdmkdogakbipbaa

/- GZ -/
namespace Go.Proofs.Ytdmkdogakbipbaa
open Go.SX Go.RowKit
theorem checkR_snoc : ∀ {l : List NodeV} {sh0 sh : List (List Int)} {n : NodeV} {s : List Int}, checkR l sh0 = (0, sh) → formB n sh.length = true → shapeO n sh = some s → nearB n = true → checkR (l ++ [n]) sh0 = (0, sh ++ [s])
  | [], sh0, sh, n, s, h, h1, h2, h3 => by
    obtain rfl : sh0 = sh := by simpa [checkR] using h
    rw [List.nil_append, checkR_next h1 h2 h3]; rfl
  | m :: r, sh0, sh, n, s, h, h1, h2, h3 => by
    by_cases hf : formB m sh0.length = false
    · rw [checkR_form hf] at h; simp at h
    have hf : formB m sh0.length = true := by simpa using hf
    cases hs : shapeO m sh0 with
    | none => rw [checkR_shape hf hs] at h; simp at h
    | some q =>
      by_cases hn : nearB m = false
      · rw [checkR_near hf hs hn] at h; simp at h
      have hn : nearB m = true := by simpa using hn
      rw [checkR_next hf hs hn] at h
      rw [List.cons_append, checkR_next hf hs hn]
      exact checkR_snoc h h1 h2 h3
theorem checkR_length : ∀ (l : List NodeV) (sh : List (List Int)), (checkR l sh).1 = 0 → (checkR l sh).2.length = sh.length + l.length
  | [], sh, _ => by simp [checkR]
  | n :: r, sh, h => by
    by_cases hf : formB n sh.length = false
    · rw [checkR_form hf] at h; simp at h
    have hf : formB n sh.length = true := by simpa using hf
    cases hs : shapeO n sh with
    | none => rw [checkR_shape hf hs] at h; simp at h
    | some s =>
      by_cases hn : nearB n = false
      · rw [checkR_near hf hs hn] at h; simp at h
      have hn : nearB n = true := by simpa using hn
      rw [checkR_next hf hs hn] at h ⊢
      rw [checkR_length r _ h]
      simp; omega
structure MadeL (l : List NodeV) : Prop where
  one : 1 ≤ l.length
  shapes : ∃ sh, checkR l [] = (0, sh) ∧ ∀ s ∈ sh, ShOk s
  each : ∀ n ∈ l, Made n
theorem madeL_snoc {l : List NodeV} {n : NodeV} {sh : List (List Int)} (h : MadeL l) (hsh : checkR l [] = (0, sh)) (hn : GoodNode n sh) (hok : ∀ s ∈ sh, ShOk s) : MadeL (l ++ [n]) := by
  obtain ⟨s, hs, hso⟩ := hn.shape
  refine ⟨by simp, ⟨sh ++ [s], checkR_snoc hsh hn.form hs hn.near, ?_⟩, ?_⟩
  · intro x hx
    rcases List.mem_append.1 hx with hx | hx
    · exact hok x hx
    · simp at hx; subst hx; exact hso
  · intro x hx
    rcases List.mem_append.1 hx with hx | hx
    · exact h.each x hx
    · simp at hx; subst hx; exact hn.made
theorem madeL_one {n : NodeV} (hn : GoodNode n []) : MadeL [n] := by
  obtain ⟨s, hs, hso⟩ := hn.shape
  refine ⟨by simp, ⟨[s], checkR_snoc (l := []) rfl hn.form hs hn.near, ?_⟩, ?_⟩
  · intro x hx; simp at hx; subst hx; exact hso
  · intro x hx; simp at hx; subst hx; exact hn.made
theorem check_made {l : List NodeV} {base : Option Addr} {cap : Nat} {out : Int} {sh : List (List Int)} (h1 : 1 ≤ l.length) (h24 : l.length ≤ 24) (ho : 0 ≤ out ∧ out < l.length) (h : checkR l [] = (0, sh)) : check ⟨base, cap, l, out⟩ = (0, sh) := by
  unfold check
  rw [if_neg (by simp only; omega)]
  exact h
/-- the numbers of several nodes -/
def nodesD (l : List NodeV) : Asn where
  holds R w := ∀ n ∈ l, (nodeD n false).holds R w
  stable := fun hR hw h n hn => (nodeD n false).stable hR hw (h n hn)
theorem made_ok {n : NodeV} {R : Nat → Prop} {w : World} (hm : Made n) (h : (nodeD n false).holds R w) : n.ok w :=
  ⟨intsA_ok hm.shape (h.1 rfl), intsA_ok hm.data h.2.1, intsA_ok hm.bias h.2.2, hm.kindFits, hm.aFits, hm.bFits, hm.loFits, hm.hiFits, hm.sizeFits⟩
theorem graph_ok {l : List NodeV} {base : Option Addr} {cap : Nat} {out : Int} {R : Nat → Prop} {w : World} (hm : ∀ n ∈ l, Made n) (hl : l.length ≤ 1000) (hr : RowsI w base 9 (nodeRows l)) (h : (nodesD l).holds R w) (ho : i64 out) : (⟨base, cap, l, out⟩ : GraphV).ok w :=
  ⟨hr, fun n hn => made_ok (hm n hn) (h n hn), fun n hn => ⟨by have := (hm n hn).dataFew; omega, by have := (hm n hn).biasFew; omega⟩, by simp only; omega, ho⟩
def GraphPost (w : World) (b : Nat) (t : BytesV) (e : Ending) (w' : World) : Prop :=
  ∃ (l : List NodeV) (out : Int) (k : Nat) (l0 : SX.Loc) (F : Nat → Prop), MadeL l ∧ l.length ≤ 8 ∧ 0 ≤ out ∧ out < l.length ∧ k ≤ t.bs.length ∧ e = .returned (.agg #[.slice l0.base l.length l0.cap, .int .i64 out]) ∧ Step (fun y => y = b) w w' ∧
    w'.heap[b]? = some (.cells (tcells t k).toArray 30 (0, 0)) ∧ (∀ x, F x → w.heap.size ≤ x) ∧ (Ent.rows (nodeRows l) 9 38).holds (fun _ => l0) l0 F w' ∧ (nodesD l).holds (fun y => (w.heap.size ≤ y ∧ y < w'.heap.size) ∧ ¬ F y) w'
theorem ends_graph {w : World} {b : Nat} {t : BytesV} {H : Heap} {S : Asn} {nx j m k : Nat} {l : List NodeV} {out : Int} (h0 : (0, Ent.box (cs (tcells t k)) 30) ∈ H) (he : (j, Ent.rows (nodeRows l) 9 38) ∈ H) (hj : j ≠ 0) (hm : m = l.length) (hk : k ≤ t.bs.length) (hml : MadeL l) (h8 : l.length ≤ 8) (ho : 0 ≤ out ∧ out < l.length)
    (hS : ∀ R w', S.holds R w' → (restA w b).holds R w') (hD : ∀ R w', S.holds R w' → ((nodesD l).past w.heap.size).holds R w') : finK ⟨w, [(0, boxL b)]⟩ (.agg [.os j m, .c (.int .i64 out)]) H S nx (GraphPost w b t) := by
  subst hm
  refine fin_of fun ρ w' hw => ?_
  have hend := box_end hw hS h0
  obtain ⟨R, φ, hw⟩ := hw
  have hp := (hw.pin (0, boxL b) List.mem_cons_self).2
  obtain ⟨b', h1, h2, h3⟩ := hw.ent _ h0
  simp only at hp h1
  rw [hp] at h1
  obtain rfl : b = b' := by simpa [boxL] using h1
  refine ⟨l, out, k, ρ j, φ j, hml, h8, ho.1, ho.2, hk, rfl, hend.1, hend.2, fun x hx => ?_, hw.ent _ he, (nodesD l).mono (hD R w' hw.asn) (fun x hx => ⟨⟨hx.2, hw.ro x hx.1⟩, fun hF => hw.apart _ he x hF hx.1⟩)⟩
  rcases Nat.lt_or_ge x w.heap.size with hl | hl
  · exfalso
    by_cases hxb : x = b
    · exact sep_two hw.sep he h0 hj x hx ((h2 x).2 hxb)
    · exact hw.apart _ he x hx (hS R w' hw.asn x ⟨hl, hxb⟩).1
  · exact hl
theorem nodesD_one {n : NodeV} {N : Nat} {R : Nat → Prop} {w : World} (h : ((nodeD n false).past N).holds R w) : ((nodesD [n]).past N).holds R w := fun m hm => by simp at hm; subst hm; exact h
theorem nodesD_snoc {l : List NodeV} {n : NodeV} {N : Nat} {R : Nat → Prop} {w : World} (hl : ((nodesD l).past N).holds R w) (h : ((nodeD n false).past N).holds R w) : ((nodesD (l ++ [n])).past N).holds R w := fun m hm => by
  rcases List.mem_append.1 hm with hm | hm
  · exact hl m hm
  · simp at hm; subst hm; exact h
theorem node_snoc (l : List NodeV) (n : NodeV) {i : Nat} {T : TypeId} {H : Heap} : (i, Ent.rows (nodeRows (l ++ [n])) 9 T) ∈ (i, Ent.rows (List.take l.length (nodeRows l) ++ [n.cells]) 9 T) :: H := by
  rw [show nodeRows (l ++ [n]) = List.take l.length (nodeRows l) ++ [n.cells] by rw [List.take_of_length_le (by rw [nodeRows_length]; exact Nat.le_refl _)]; simp [nodeRows]]
  exact List.mem_cons_self
theorem unalias {sv : ShapesV} {x : NodeV × Bool} {N : Nat} {R : Nat → Prop} {w : World} (ha : x.2 = true → x.1.shape ∈ sv.l) (hs : ((shapesD sv).past N).holds R w) (hn : ((nodeD x.1 x.2).past N).holds R w) : ((nodeD x.1 false).past N).holds R w :=
  ⟨fun _ => by
    cases h2 : x.2 with
    | true => exact hs.2 _ (ha h2)
    | false => exact hn.1 h2, hn.2⟩
set_option maxRecDepth 20000 in
set_option maxHeartbeats 8000000 in
theorem make_any (w : World) (b : Nat) (t : BytesV) (k : Nat) (h : TapeOk w b t k) : Calls Try.prog 16 #[.pointer (some ⟨b, 0, none⟩)] w (GraphPost w b t) := by
  obtain ⟨hs, hby, hd, hk, hb⟩ := h
  refine calls_of tab tabOk Try.func16 rfl rfl rfl [(0, boxL b)] (fun _ => boxL b) [.lp 0 0 0 0] _ (restA w b) 1 (by simp [SV.rfs, SV.rf, boxL, add_none]) rfl (by show 1 ≤ _; decide) (abs_box hb) ?_
  (repeat' ((conv => whnf) <;> first | (show Wp _ _ _ _ _ _ _; refine Wp.go tabOk rfl ?_) | (show @cmpK _ _ _; (first | refine cmpY ?_ | refine cmpN ?_ | (refine cmp_both ?_ ?_ <;> intro _))) | (show wrapK _ _ _; refine wrapA ?_) | (show leK _ _ _; refine leA ?_) | (show roomK _ _ _; refine roomA ?_) | (show ltK _ _ _; refine ltA ?_) | (show _ ∧ _; refine ⟨?_, ?_⟩) | (show keepK _ _ _ _ _; refine keepA ?_) | refine own_keep ?_ | refine ap_old ?_))
  refine call_t (f := 40) [] t k NodeV.valA (fun n => nodeD n false) _ (by first | exact List.mem_cons_self | exact List.mem_cons_of_mem _ List.mem_cons_self | (repeat (first | exact List.mem_cons_self | apply List.mem_cons_of_mem))) Try.call40 hs hby hk (fun R w' h => rest_holds hd (by first | exact h | exact h.1 | exact h.1.1 | exact h.1.1.1 | exact h.1.1.1.1)) (fun R w' b' ht _ _ => input_any w' b' t k ht) (fun n0 k1 hn0 hk1 => ?_)
  (repeat' ((conv => whnf) <;> first | (show Wp _ _ _ _ _ _ _; refine Wp.go tabOk rfl ?_) | (show @cmpK _ _ _; (first | refine cmpY ?_ | refine cmpN ?_ | (refine cmp_both ?_ ?_ <;> intro _))) | (show wrapK _ _ _; refine wrapA ?_) | (show leK _ _ _; refine leA ?_) | (show roomK _ _ _; refine roomA ?_) | (show ltK _ _ _; refine ltA ?_) | (show _ ∧ _; refine ⟨?_, ?_⟩) | (show keepK _ _ _ _ _; refine keepA ?_) | refine own_keep ?_ | refine ap_old ?_))
  refine call_num (f := 41) [.int .i64 8] t k1 _ (by first | exact List.mem_cons_self | exact List.mem_cons_of_mem _ List.mem_cons_self | (repeat (first | exact List.mem_cons_self | apply List.mem_cons_of_mem))) Try.call41 hs hby hk1 (fun R w' h => rest_holds hd (by first | exact h | exact h.1 | exact h.1.1 | exact h.1.1.1 | exact h.1.1.1.1)) (fun w' b' ht => next_any w' b' t k1 ht 8 ⟨by decide, by decide⟩) (fun q k2 hq hk2 => ?_)
  have hq0 := hq.1
  have hq1 := hq.2.1 (by omega)
  (repeat' ((conv => whnf) <;> first | (show Wp _ _ _ _ _ _ _; refine Wp.go tabOk rfl ?_) | (show @cmpK _ _ _; (first | refine cmpY ?_ | refine cmpN ?_ | (refine cmp_both ?_ ?_ <;> intro _))) | (show wrapK _ _ _; refine wrapA ?_) | (show leK _ _ _; refine leA ?_) | (show roomK _ _ _; refine roomA ?_) | (show ltK _ _ _; refine ltA ?_) | (show _ ∧ _; refine ⟨?_, ?_⟩) | (show keepK _ _ _ _ _; refine keepA ?_) | refine own_keep ?_ | refine ap_old ?_))
  refine Wp.loop (σ := Int × Nat × Nat × Int × List NodeV) 5 (fun ⟨i, _, _, _, _⟩ => [(0, .lp 0 0 0 0), (3, .lp 3 0 0 0), (4, .c (.int .i64 i)), (2, .lp 1 0 0 0)])
    (fun ⟨_, kt, m, out, l⟩ => [(4, .rows (nodeRows l) 9 38), (3, .box [.os 4 m, .c (.int .i64 out)] 26), (1, .box (cs [.slice none 0 0, .int .i64 0]) 26), (0, .box (cs (tcells t kt)) 30)])
    (fun ⟨_, _, _, _, l⟩ => (restA w b).and ((nodesD l).past w.heap.size))
    (fun ⟨i, kt, m, out, l⟩ => kt ≤ t.bs.length ∧ l.length = m ∧ 0 ≤ i ∧ m + i ≤ 8 ∧ MadeL l ∧ 0 ≤ out ∧ out < m) (fun s => s.1.toNat) (q, k2, 1, 0, [n0]) [(4, some 2)] (by decide) (fun s => ⟨rfl, rfl⟩) ⟨hk2, rfl, hq0, by omega, madeL_one (good_input hn0), by decide, by decide⟩ ⟨rfl, ⟨rfl, rfl, rfl, rfl, trivial⟩, ⟨(by first | exact List.mem_cons_self | exact List.mem_cons_of_mem _ List.mem_cons_self | (repeat (first | exact List.mem_cons_self | apply List.mem_cons_of_mem))), (by first | exact List.mem_cons_self | exact List.mem_cons_of_mem _ List.mem_cons_self | (repeat (first | exact List.mem_cons_self | apply List.mem_cons_of_mem))), (by first | exact List.mem_cons_self | exact List.mem_cons_of_mem _ List.mem_cons_self | (repeat (first | exact List.mem_cons_self | apply List.mem_cons_of_mem))), (by first | exact List.mem_cons_self | exact List.mem_cons_of_mem _ List.mem_cons_self | (repeat (first | exact List.mem_cons_self | apply List.mem_cons_of_mem))), trivial⟩, fun R w' h => ⟨h.1, nodesD_one h.2⟩⟩ ?_
  rintro ⟨i, kt, m, out, l⟩ ⟨hkt, hlm, hi0, hmi, hml, ho0, ho1⟩
  subst hlm
  obtain ⟨sh, hsh, hso⟩ := hml.shapes
  have hshl : sh.length = l.length := by have := checkR_length l [] (by rw [hsh]); rw [hsh] at this; simpa using this
  have hl1 := hml.one
  by_cases hi : 0 < i
  · (repeat' ((conv => whnf) <;> first | (show Wp _ _ _ _ _ _ _; refine Wp.go tabOk rfl ?_) | (show @cmpK _ _ _; (first | refine cmpY ?_ | refine cmpN ?_ | (refine cmp_both ?_ ?_ <;> intro _))) | (show wrapK _ _ _; refine wrapA ?_) | (show leK _ _ _; refine leA ?_) | (show roomK _ _ _; refine roomA ?_) | (show ltK _ _ _; refine ltA ?_) | (show _ ∧ _; refine ⟨?_, ?_⟩) | (show keepK _ _ _ _ _; refine keepA ?_) | refine own_keep ?_ | refine ap_old ?_))
    refine call_check (f := 38) (0, sh) Try.call38 (fun ρ w' hw => by
      have hg : (⟨(ρ 4).base, (ρ 4).cap, l, out⟩ : GraphV).ok w' := holds_of_abs hw fun R h => graph_ok hml.each (by omega) (rows_of_abs hw (by first | exact List.mem_cons_self | exact List.mem_cons_of_mem _ List.mem_cons_self | (repeat (first | exact List.mem_cons_self | apply List.mem_cons_of_mem)))) ((nodesD l).mono h.2 (fun b hb => hb.1)) ⟨by omega, by omega⟩
      have := refCheck_any w' _ hg
      rw [check_made hml.one (by omega) ⟨ho0, ho1⟩ hsh] at this
      exact this) (fun h => absurd rfl h) (fun _ sv hm hs2 => ?_)
    have hm : sv.l.map (·.xs) = sh := hm
    (repeat' ((conv => whnf) <;> first | (show Wp _ _ _ _ _ _ _; refine Wp.go tabOk rfl ?_) | (show @cmpK _ _ _; (first | refine cmpY ?_ | refine cmpN ?_ | (refine cmp_both ?_ ?_ <;> intro _))) | (show wrapK _ _ _; refine wrapA ?_) | (show leK _ _ _; refine leA ?_) | (show roomK _ _ _; refine roomA ?_) | (show ltK _ _ _; refine ltA ?_) | (show _ ∧ _; refine ⟨?_, ?_⟩) | (show keepK _ _ _ _ _; refine keepA ?_) | refine own_keep ?_ | refine ap_old ?_))
    refine call_t (f := 40) [] t kt NodeV.valA (fun n => nodeD n false) _ (by first | exact List.mem_cons_self | exact List.mem_cons_of_mem _ List.mem_cons_self | (repeat (first | exact List.mem_cons_self | apply List.mem_cons_of_mem))) Try.call40 hs hby hkt (fun R w' h => rest_holds hd (by first | exact h | exact h.1 | exact h.1.1 | exact h.1.1.1 | exact h.1.1.1.1)) (fun R w' b' ht _ _ => input_any w' b' t kt ht) (fun n1 k3 hn1 hk3 => ?_)
    (repeat' ((conv => whnf) <;> first | (show Wp _ _ _ _ _ _ _; refine Wp.go tabOk rfl ?_) | (show @cmpK _ _ _; (first | refine cmpY ?_ | refine cmpN ?_ | (refine cmp_both ?_ ?_ <;> intro _))) | (show wrapK _ _ _; refine wrapA ?_) | (show leK _ _ _; refine leA ?_) | (show roomK _ _ _; refine roomA ?_) | (show ltK _ _ _; refine ltA ?_) | (show _ ∧ _; refine ⟨?_, ?_⟩) | (show keepK _ _ _ _ _; refine keepA ?_) | refine own_keep ?_ | refine ap_old ?_))
    refine call_num (f := 41) [.int .i64 6] t k3 _ (by first | exact List.mem_cons_self | exact List.mem_cons_of_mem _ List.mem_cons_self | (repeat (first | exact List.mem_cons_self | apply List.mem_cons_of_mem))) Try.call41 hs hby hk3 (fun R w' h => rest_holds hd (by first | exact h | exact h.1 | exact h.1.1 | exact h.1.1.1 | exact h.1.1.1.1)) (fun w' b' ht => next_any w' b' t k3 ht 6 ⟨by decide, by decide⟩) (fun z k4 hz hk4 => ?_)
    (repeat' ((conv => whnf) <;> first | (show leK _ _ _; (refine le_of (by rw [nodeRows_length]; exact Nat.le_refl _) ?_)) | (show roomK _ _ _; (refine room_of (by show (l.length + 1) * 120 ≤ 140737488355328; omega) ?_)) | (show wrapK _ _ _; (first | refine wrap_i64 (by omega) (by omega) ?_ | (show wrapK .i64 (((l.length + 1 : Nat) : Int) - 1) _; refine wrap_i64 (by omega) (by omega) ?_))) | (show Wp _ _ _ _ _ _ _; refine Wp.go tabOk rfl ?_) | (show @cmpK _ _ _; (first | refine cmpY ?_ | refine cmpN ?_ | (refine cmp_both ?_ ?_ <;> intro _))) | (show wrapK _ _ _; refine wrapA ?_) | (show leK _ _ _; refine leA ?_) | (show roomK _ _ _; refine roomA ?_) | (show ltK _ _ _; refine ltA ?_) | (show _ ∧ _; refine ⟨?_, ?_⟩) | (show keepK _ _ _ _ _; refine keepA ?_) | refine own_keep ?_ | refine ap_old ?_))
    · have hsl : sv.l.length = sh.length := by rw [← hm]; simp
      refine call_t (f := 42) [sv.val] t k4 (fun x : NodeV × Bool => x.1.valA) (fun x => nodeD x.1 x.2) _ (by first | exact List.mem_cons_self | exact List.mem_cons_of_mem _ List.mem_cons_self | (repeat (first | exact List.mem_cons_self | apply List.mem_cons_of_mem))) Try.call42 hs hby hk4 (fun R w' h => rest_holds hd (by first | exact h | exact h.1 | exact h.1.1 | exact h.1.1.1 | exact h.1.1.1.1)) (fun R w' b' ht hR hRo => node_any w' b' t k4 ht sv ((shapesD sv).mono hR.1.2 (fun x hx => hRo x hx.1)) ⟨by omega, by omega⟩ hs2 (fun u hu => hso _ (by rw [← hm]; exact List.mem_map.2 ⟨u, hu, rfl⟩))) (fun x k5 hx hk5 => ?_)
      have hxg := hx.good
      rw [hm] at hxg
      (repeat' ((conv => whnf) <;> first | (show leK _ _ _; (refine le_of (by rw [nodeRows_length]; exact Nat.le_refl _) ?_)) | (show roomK _ _ _; (refine room_of (by show (l.length + 1) * 120 ≤ 140737488355328; omega) ?_)) | (show wrapK _ _ _; (first | refine wrap_i64 (by omega) (by omega) ?_ | (show wrapK .i64 (((l.length + 1 : Nat) : Int) - 1) _; refine wrap_i64 (by omega) (by omega) ?_))) | (show Wp _ _ _ _ _ _ _; refine Wp.go tabOk rfl ?_) | (show @cmpK _ _ _; (first | refine cmpY ?_ | refine cmpN ?_ | (refine cmp_both ?_ ?_ <;> intro _))) | (show wrapK _ _ _; refine wrapA ?_) | (show leK _ _ _; refine leA ?_) | (show roomK _ _ _; refine roomA ?_) | (show ltK _ _ _; refine ltA ?_) | (show _ ∧ _; refine ⟨?_, ?_⟩) | (show keepK _ _ _ _ _; refine keepA ?_) | refine own_keep ?_ | refine ap_old ?_))
      exact ⟨(i - 1, k5, l.length + 1, ((l.length + 1 : Nat) : Int) - 1, l ++ [x.1]), [(4, some 7)], ⟨by assumption, by simp, by omega, by omega, madeL_snoc hml hsh (hxg) hso, by omega, by omega⟩, by simp only; omega, rfl, ⟨rfl, rfl, rfl, rfl, trivial⟩, ⟨node_snoc l _, (by first | exact List.mem_cons_self | exact List.mem_cons_of_mem _ List.mem_cons_self | (repeat (first | exact List.mem_cons_self | apply List.mem_cons_of_mem))), (by first | exact List.mem_cons_self | exact List.mem_cons_of_mem _ List.mem_cons_self | (repeat (first | exact List.mem_cons_self | apply List.mem_cons_of_mem))), (by first | exact List.mem_cons_self | exact List.mem_cons_of_mem _ List.mem_cons_self | (repeat (first | exact List.mem_cons_self | apply List.mem_cons_of_mem))), trivial⟩, fun R w' h => ⟨h.1.1.1.1, nodesD_snoc h.1.1.1.2 (unalias hx.alias_ h.1.1.2 h.2)⟩⟩
    · exact ⟨(i - 1, k4, l.length + 1, ((l.length + 1 : Nat) : Int) - 1, l ++ [n1]), [(4, some 7)], ⟨by assumption, by simp, by omega, by omega, madeL_snoc hml hsh (good_input hn1) hso, by omega, by omega⟩, by simp only; omega, rfl, ⟨rfl, rfl, rfl, rfl, trivial⟩, ⟨node_snoc l _, (by first | exact List.mem_cons_self | exact List.mem_cons_of_mem _ List.mem_cons_self | (repeat (first | exact List.mem_cons_self | apply List.mem_cons_of_mem))), (by first | exact List.mem_cons_self | exact List.mem_cons_of_mem _ List.mem_cons_self | (repeat (first | exact List.mem_cons_self | apply List.mem_cons_of_mem))), (by first | exact List.mem_cons_self | exact List.mem_cons_of_mem _ List.mem_cons_self | (repeat (first | exact List.mem_cons_self | apply List.mem_cons_of_mem))), trivial⟩, fun R w' h => ⟨h.1.1.1, nodesD_snoc h.1.1.2 h.2⟩⟩
  · (repeat' ((conv => whnf) <;> first | (show Wp _ _ _ _ _ _ _; refine Wp.go tabOk rfl ?_) | (show @cmpK _ _ _; (first | refine cmpY ?_ | refine cmpN ?_ | (refine cmp_both ?_ ?_ <;> intro _))) | (show wrapK _ _ _; refine wrapA ?_) | (show leK _ _ _; refine leA ?_) | (show roomK _ _ _; refine roomA ?_) | (show ltK _ _ _; refine ltA ?_) | (show _ ∧ _; refine ⟨?_, ?_⟩) | (show keepK _ _ _ _ _; refine keepA ?_) | refine own_keep ?_ | refine ap_old ?_))
    refine call_num (f := 41) [.int .i64 6] t kt _ (by first | exact List.mem_cons_self | exact List.mem_cons_of_mem _ List.mem_cons_self | (repeat (first | exact List.mem_cons_self | apply List.mem_cons_of_mem))) Try.call41 hs hby hkt (fun R w' h => rest_holds hd h.1) (fun w' b' ht => next_any w' b' t kt ht 6 ⟨by decide, by decide⟩) (fun z k4 hz hk4 => ?_)
    (repeat' ((conv => whnf) <;> first | (show Wp _ _ _ _ _ _ _; refine Wp.go tabOk rfl ?_) | (show @cmpK _ _ _; (first | refine cmpY ?_ | refine cmpN ?_ | (refine cmp_both ?_ ?_ <;> intro _))) | (show wrapK _ _ _; refine wrapA ?_) | (show leK _ _ _; refine leA ?_) | (show roomK _ _ _; refine roomA ?_) | (show ltK _ _ _; refine ltA ?_) | (show _ ∧ _; refine ⟨?_, ?_⟩) | (show keepK _ _ _ _ _; refine keepA ?_) | refine own_keep ?_ | refine ap_old ?_))
    · refine call_num (f := 41) [.int .i64 l.length] t k4 _ (by first | exact List.mem_cons_self | exact List.mem_cons_of_mem _ List.mem_cons_self | (repeat (first | exact List.mem_cons_self | apply List.mem_cons_of_mem))) Try.call41 hs hby hk4 (fun R w' h => rest_holds hd h.1) (fun w' b' ht => next_any w' b' t k4 ht l.length ⟨by omega, by omega⟩) (fun o k5 ho hk5 => ?_)
      (repeat' ((conv => whnf) <;> first | (show Wp _ _ _ _ _ _ _; refine Wp.go tabOk rfl ?_) | (show @cmpK _ _ _; (first | refine cmpY ?_ | refine cmpN ?_ | (refine cmp_both ?_ ?_ <;> intro _))) | (show wrapK _ _ _; refine wrapA ?_) | (show leK _ _ _; refine leA ?_) | (show roomK _ _ _; refine roomA ?_) | (show ltK _ _ _; refine ltA ?_) | (show _ ∧ _; refine ⟨?_, ?_⟩) | (show keepK _ _ _ _ _; refine keepA ?_) | refine own_keep ?_ | refine ap_old ?_))
      conv => whnf
      exact ends_graph (by first | exact List.mem_cons_self | exact List.mem_cons_of_mem _ List.mem_cons_self | (repeat (first | exact List.mem_cons_self | apply List.mem_cons_of_mem))) (by first | exact List.mem_cons_self | exact List.mem_cons_of_mem _ List.mem_cons_self | (repeat (first | exact List.mem_cons_self | apply List.mem_cons_of_mem))) (by decide) rfl hk5 hml (by omega) (by have := ho.1; have := ho.2.1; have := ho.2.2; omega) (fun _ _ h => h.1) (fun _ _ h => h.2)
    · conv => whnf
      exact ends_graph (by first | exact List.mem_cons_self | exact List.mem_cons_of_mem _ List.mem_cons_self | (repeat (first | exact List.mem_cons_self | apply List.mem_cons_of_mem))) (by first | exact List.mem_cons_self | exact List.mem_cons_of_mem _ List.mem_cons_self | (repeat (first | exact List.mem_cons_self | apply List.mem_cons_of_mem))) (by decide) rfl hk4 hml (by omega) ⟨ho0, ho1⟩ (fun _ _ h => h.1) (fun _ _ h => h.2)
end Go.Proofs.Ytdmkdogakbipbaa

/- GT -/
namespace Go.Proofs.Ytdmkdogakbipbaa
open Go.SX Go.ChangeShapes Go.WideShapes Go.ChangeAt Go.RowKit
end Go.Proofs.Ytdmkdogakbipbaa

/- HA -/
namespace Go.Proofs.Ytdmkdogakbipbaa
open Go.SX Go.RowKit Go.ChangeShapes Go.WideShapes Go.ChangeAt
theorem call_graph {cx : Cx} {f : FuncId} {H : Heap} {S : Asn} {nx i : Nat} {K : SV → Heap → Asn → Nat → Prop} (t : BytesV) (k : Nat) (hi : (i, Ent.box (cs (tcells t k)) 30) ∈ H) (hf : ∀ ar w, (callFunc f ar).run cx.P w = .ok (.enter f ar) w)
    (hsm : t.bs.length ≤ 1000000) (hby : ∀ x ∈ t.bs, x ≤ 255) (hk : k ≤ t.bs.length) (hS : ∀ R w', S.holds R w' → (bytesD t).holds R w')
    (hc : ∀ w' b, TapeOk w' b t k → Calls cx.P f #[.pointer (some ⟨b, 0, none⟩)] w' (GraphPost w' b t))
    (h : ∀ (l : List NodeV) (out : Int) (k' : Nat), MadeL l → l.length ≤ 8 → 0 ≤ out → out < l.length → K (.agg [.os nx l.length, .c (.int .i64 out)]) ((nx, .rows (nodeRows l) 9 38) :: setH i (.box (cs (tcells t k')) 30) H) (S.and ((nodesD l).past cx.B.w0.heap.size)) (nx + 1)) : callK cx f [.lp i 0 0 0] H S nx K := by
  rw [callK_def]
  refine ⟨hf, fun ρ w hw => ?_⟩
  obtain ⟨R, φ, hwR⟩ := hw
  obtain ⟨b, h1, h2, h3⟩ := hwR.ent _ hi
  simp only at h1 h2
  rw [rfs_cs] at h3
  have hRo : ∀ x, R x → oth w b x := fun x hx => ⟨hwR.ro x hx, fun e => hwR.apart _ hi x ((h2 x).2 e) hx⟩
  have e : SV.rfs ρ [.lp i 0 0 0] = [Value.pointer (some ⟨b, 0, none⟩)] := by
    simp only [SV.rfs, SV.rf, h1, Option.map_some, add_none]
  rw [e]
  refine (hc w b ⟨hsm, hby, (bytesD t).mono (hS R w hwR.asn) hRo, hk, h3⟩).mono ?_
  rintro e w' ⟨l, out, k', l0, F, hml, h8, ho0, ho1, hk', rfl, hs, hb, hF, hent, hD⟩
  have hlt : (Ent.box (cs (tcells t k')) 30).lt nx := fun y hy => lts_cs nx _ y hy
  have h' := hwR.store hi hlt (w' := w') fun G hG => by
    obtain ⟨b', g1, g2, g3⟩ := hG
    obtain rfl : b = b' := by rw [h1] at g1; simpa using g1
    exact ⟨⟨hs.os, hs.tape, hs.output, hs.size, fun y hy hne => hs.block y hy fun e => hne ((g2 y).2 e)⟩, b, g1, g2, by rw [rfs_cs]; exact hb⟩
  have hold : ∀ p ∈ setH i (.box (cs (tcells t k')) 30) H, ∀ x, φ p.1 x → x < w.heap.size := fun q hq x hx => by
    have hk : q.1 ∈ H.map (·.1) := by rw [← keys_setH i (.box (cs (tcells t k')) 30) H]; exact List.mem_map.2 ⟨q, hq, rfl⟩
    obtain ⟨q', hq', e⟩ := List.mem_map.1 hk
    rw [← e] at hx
    exact Ent.size (hwR.ent q' hq') hx
  have ha := h'.add (F := F) (e := .rows (nodeRows l) 9 38) (l := l0) (fun y hy => by simp [Ent.hass] at hy) hent (fun x hx hR => by have := hF x hx; have := hwR.ro x hR; omega) (fun p hp x hx hx' => by have := hF x hx'; have := hold p hp x hx; omega)
  refine ⟨.agg [.os nx l.length, .c (.int .i64 out)], upd ρ nx l0, _, _, nx + 1, by simp [SV.rf, SV.rfs, upd_same], fun j hj => upd_lt hj, Nat.le_succ _, ?_, ?_, h l out k' hml h8 ho0 ho1⟩
  · rw [SV.lt_agg, SV.lts_iff]
    intro v hv
    simp only [List.mem_cons, List.not_mem_nil, or_false] at hv
    rcases hv with rfl | rfl
    · exact SV.lt_os (by omega)
    · exact SV.lt_c _
  · refine ⟨fun y => R y ∨ ((w.heap.size ≤ y ∧ y < w'.heap.size) ∧ ¬ F y), (fun i => if i = nx then F else φ i), ha.os, ha.tape, ha.output, ha.size, ha.pin, fun y hy => hy.elim (ha.ro y) (fun h => h.1.2), ⟨S.stable (fun _ h => .inl h) (fun _ _ => rfl) ha.asn, ?_⟩, ha.key, ha.ent, fun q hq y hy hy' => ?_, ha.sep⟩
    · exact (nodesD l).stable (fun y hy => ⟨.inr hy, Nat.le_trans hwR.size hy.1.1⟩) (fun _ _ => rfl) hD
    · rcases hy' with hy' | hy'
      · exact ha.apart q hq y hy hy'
      · rcases List.mem_cons.1 hq with rfl | hq
        · simp only [if_true] at hy; exact hy'.2 hy
        · have hne : q.1 ≠ nx := by have := (h'.key q hq).1; omega
          simp only [if_neg hne] at hy
          have := hold q hq y hy
          omega
end Go.Proofs.Ytdmkdogakbipbaa

/- JA -/
namespace Go.Proofs.Ytdmkdogakbipbaa
abbrev dtJA0 : Go.SX.DT := (.take 0 (.take 1 (.take 2 (.take 3 (.take 4 (.take 5 (.take 6 (.take 7 (.take 8 (.take 9 (.one 10 (.take 11 (.one 12 (.one 13 (.take 14 (.done))))))))))))))))
abbrev dtJA1 : Go.SX.DT := (.take 0 (.take 3 (.alt 1 (.alt 2 (.alt 4 (.alt 5 (.one 6 (.one 7 (.take 8 (.take 9 (.one 10 (.take 11 (.one 12 (.one 13 (.take 14 (.done)))))))))) (.one 6 (.alt 5 (.one 7 (.take 8 (.take 9 (.one 10 (.take 11 (.one 12 (.one 13 (.take 14 (.done))))))))) (.one 7 (.one 5 (.take 8 (.take 9 (.one 10 (.take 11 (.one 12 (.one 13 (.take 14 (.done))))))))))))) (.one 6 (.alt 4 (.alt 5 (.one 7 (.take 8 (.take 9 (.one 10 (.take 11 (.one 12 (.one 13 (.take 14 (.done))))))))) (.one 7 (.one 5 (.take 8 (.take 9 (.one 10 (.take 11 (.one 12 (.one 13 (.take 14 (.done))))))))))) (.one 7 (.one 4 (.one 5 (.take 8 (.take 9 (.one 10 (.take 11 (.one 12 (.one 13 (.take 14 (.done)))))))))))))) (.alt 4 (.alt 2 (.alt 5 (.one 6 (.one 7 (.take 8 (.take 9 (.one 10 (.take 11 (.one 12 (.one 13 (.take 14 (.done)))))))))) (.one 6 (.alt 5 (.one 7 (.take 8 (.take 9 (.one 10 (.take 11 (.one 12 (.one 13 (.take 14 (.done))))))))) (.one 7 (.one 5 (.take 8 (.take 9 (.one 10 (.take 11 (.one 12 (.one 13 (.take 14 (.done))))))))))))) (.alt 5 (.alt 2 (.one 6 (.one 7 (.take 8 (.take 9 (.one 10 (.take 11 (.one 12 (.one 13 (.take 14 (.done)))))))))) (.one 6 (.alt 2 (.one 7 (.take 8 (.take 9 (.one 10 (.take 11 (.one 12 (.one 13 (.take 14 (.done))))))))) (.one 7 (.take 8 (.take 9 (.alt 2 (.one 10 (.take 11 (.one 12 (.one 13 (.take 14 (.done)))))) (.one 10 (.one 2 (.take 11 (.one 12 (.one 13 (.take 14 (.done)))))))))))))) (.one 6 (.alt 2 (.alt 5 (.one 7 (.take 8 (.take 9 (.one 10 (.take 11 (.one 12 (.one 13 (.take 14 (.done))))))))) (.one 7 (.one 5 (.take 8 (.take 9 (.one 10 (.take 11 (.one 12 (.one 13 (.take 14 (.done))))))))))) (.alt 5 (.alt 2 (.one 7 (.take 8 (.take 9 (.one 10 (.take 11 (.one 12 (.one 13 (.take 14 (.done))))))))) (.one 7 (.take 8 (.take 9 (.alt 2 (.one 10 (.take 11 (.one 12 (.one 13 (.take 14 (.done)))))) (.one 10 (.one 2 (.take 11 (.one 12 (.one 13 (.take 14 (.done)))))))))))) (.one 7 (.alt 2 (.one 5 (.take 8 (.take 9 (.one 10 (.take 11 (.one 12 (.one 13 (.take 14 (.done))))))))) (.one 5 (.take 8 (.take 9 (.alt 2 (.one 10 (.take 11 (.one 12 (.one 13 (.take 14 (.done)))))) (.one 10 (.one 2 (.take 11 (.one 12 (.one 13 (.take 14 (.done)))))))))))))))))) (.one 6 (.alt 2 (.alt 4 (.alt 5 (.one 7 (.take 8 (.take 9 (.one 10 (.take 11 (.one 12 (.one 13 (.take 14 (.done))))))))) (.one 7 (.one 5 (.take 8 (.take 9 (.one 10 (.take 11 (.one 12 (.one 13 (.take 14 (.done))))))))))) (.one 7 (.one 4 (.one 5 (.take 8 (.take 9 (.one 10 (.take 11 (.one 12 (.one 13 (.take 14 (.done)))))))))))) (.alt 4 (.alt 2 (.alt 5 (.one 7 (.take 8 (.take 9 (.one 10 (.take 11 (.one 12 (.one 13 (.take 14 (.done))))))))) (.one 7 (.one 5 (.take 8 (.take 9 (.one 10 (.take 11 (.one 12 (.one 13 (.take 14 (.done))))))))))) (.alt 5 (.alt 2 (.one 7 (.take 8 (.take 9 (.one 10 (.take 11 (.one 12 (.one 13 (.take 14 (.done))))))))) (.one 7 (.take 8 (.take 9 (.alt 2 (.one 10 (.take 11 (.one 12 (.one 13 (.take 14 (.done)))))) (.one 10 (.one 2 (.take 11 (.one 12 (.one 13 (.take 14 (.done)))))))))))) (.one 7 (.alt 2 (.one 5 (.take 8 (.take 9 (.one 10 (.take 11 (.one 12 (.one 13 (.take 14 (.done))))))))) (.one 5 (.take 8 (.take 9 (.alt 2 (.one 10 (.take 11 (.one 12 (.one 13 (.take 14 (.done)))))) (.one 10 (.one 2 (.take 11 (.one 12 (.one 13 (.take 14 (.done))))))))))))))) (.one 7 (.alt 2 (.one 4 (.one 5 (.take 8 (.take 9 (.one 10 (.take 11 (.one 12 (.one 13 (.take 14 (.done)))))))))) (.one 4 (.alt 2 (.one 5 (.take 8 (.take 9 (.one 10 (.take 11 (.one 12 (.one 13 (.take 14 (.done))))))))) (.one 5 (.take 8 (.take 9 (.alt 2 (.one 10 (.take 11 (.one 12 (.one 13 (.take 14 (.done)))))) (.one 10 (.one 2 (.take 11 (.one 12 (.one 13 (.take 14 (.done)))))))))))))))))))) (.alt 4 (.alt 1 (.alt 2 (.alt 5 (.one 6 (.one 7 (.take 8 (.take 9 (.one 10 (.take 11 (.one 12 (.one 13 (.take 14 (.done)))))))))) (.one 6 (.alt 5 (.one 7 (.take 8 (.take 9 (.one 10 (.take 11 (.one 12 (.one 13 (.take 14 (.done))))))))) (.one 7 (.one 5 (.take 8 (.take 9 (.one 10 (.take 11 (.one 12 (.one 13 (.take 14 (.done))))))))))))) (.alt 5 (.alt 2 (.one 6 (.one 7 (.take 8 (.take 9 (.one 10 (.take 11 (.one 12 (.one 13 (.take 14 (.done)))))))))) (.one 6 (.alt 2 (.one 7 (.take 8 (.take 9 (.one 10 (.take 11 (.one 12 (.one 13 (.take 14 (.done))))))))) (.one 7 (.take 8 (.take 9 (.alt 2 (.one 10 (.take 11 (.one 12 (.one 13 (.take 14 (.done)))))) (.one 10 (.one 2 (.take 11 (.one 12 (.one 13 (.take 14 (.done)))))))))))))) (.one 6 (.alt 2 (.alt 5 (.one 7 (.take 8 (.take 9 (.one 10 (.take 11 (.one 12 (.one 13 (.take 14 (.done))))))))) (.one 7 (.one 5 (.take 8 (.take 9 (.one 10 (.take 11 (.one 12 (.one 13 (.take 14 (.done))))))))))) (.alt 5 (.alt 2 (.one 7 (.take 8 (.take 9 (.one 10 (.take 11 (.one 12 (.one 13 (.take 14 (.done))))))))) (.one 7 (.take 8 (.take 9 (.alt 2 (.one 10 (.take 11 (.one 12 (.one 13 (.take 14 (.done)))))) (.one 10 (.one 2 (.take 11 (.one 12 (.one 13 (.take 14 (.done)))))))))))) (.one 7 (.alt 2 (.one 5 (.take 8 (.take 9 (.one 10 (.take 11 (.one 12 (.one 13 (.take 14 (.done))))))))) (.one 5 (.take 8 (.take 9 (.alt 2 (.one 10 (.take 11 (.one 12 (.one 13 (.take 14 (.done)))))) (.one 10 (.one 2 (.take 11 (.one 12 (.one 13 (.take 14 (.done)))))))))))))))))) (.alt 5 (.alt 1 (.alt 2 (.one 6 (.one 7 (.take 8 (.take 9 (.one 10 (.take 11 (.one 12 (.one 13 (.take 14 (.done)))))))))) (.one 6 (.alt 2 (.one 7 (.take 8 (.take 9 (.one 10 (.take 11 (.one 12 (.one 13 (.take 14 (.done))))))))) (.one 7 (.take 8 (.take 9 (.alt 2 (.one 10 (.take 11 (.one 12 (.one 13 (.take 14 (.done)))))) (.one 10 (.one 2 (.take 11 (.one 12 (.one 13 (.take 14 (.done)))))))))))))) (.one 6 (.alt 1 (.alt 2 (.one 7 (.take 8 (.take 9 (.one 10 (.take 11 (.one 12 (.one 13 (.take 14 (.done))))))))) (.one 7 (.take 8 (.take 9 (.alt 2 (.one 10 (.take 11 (.one 12 (.one 13 (.take 14 (.done)))))) (.one 10 (.one 2 (.take 11 (.one 12 (.one 13 (.take 14 (.done)))))))))))) (.one 7 (.take 8 (.take 9 (.alt 1 (.alt 2 (.one 10 (.take 11 (.one 12 (.one 13 (.take 14 (.done)))))) (.one 10 (.one 2 (.take 11 (.one 12 (.one 13 (.take 14 (.done)))))))) (.one 10 (.one 1 (.one 2 (.take 11 (.one 12 (.one 13 (.take 14 (.done))))))))))))))) (.one 6 (.alt 1 (.alt 2 (.alt 5 (.one 7 (.take 8 (.take 9 (.one 10 (.take 11 (.one 12 (.one 13 (.take 14 (.done))))))))) (.one 7 (.one 5 (.take 8 (.take 9 (.one 10 (.take 11 (.one 12 (.one 13 (.take 14 (.done))))))))))) (.alt 5 (.alt 2 (.one 7 (.take 8 (.take 9 (.one 10 (.take 11 (.one 12 (.one 13 (.take 14 (.done))))))))) (.one 7 (.take 8 (.take 9 (.alt 2 (.one 10 (.take 11 (.one 12 (.one 13 (.take 14 (.done)))))) (.one 10 (.one 2 (.take 11 (.one 12 (.one 13 (.take 14 (.done)))))))))))) (.one 7 (.alt 2 (.one 5 (.take 8 (.take 9 (.one 10 (.take 11 (.one 12 (.one 13 (.take 14 (.done))))))))) (.one 5 (.take 8 (.take 9 (.alt 2 (.one 10 (.take 11 (.one 12 (.one 13 (.take 14 (.done)))))) (.one 10 (.one 2 (.take 11 (.one 12 (.one 13 (.take 14 (.done))))))))))))))) (.alt 5 (.alt 1 (.alt 2 (.one 7 (.take 8 (.take 9 (.one 10 (.take 11 (.one 12 (.one 13 (.take 14 (.done))))))))) (.one 7 (.take 8 (.take 9 (.alt 2 (.one 10 (.take 11 (.one 12 (.one 13 (.take 14 (.done)))))) (.one 10 (.one 2 (.take 11 (.one 12 (.one 13 (.take 14 (.done)))))))))))) (.one 7 (.take 8 (.take 9 (.alt 1 (.alt 2 (.one 10 (.take 11 (.one 12 (.one 13 (.take 14 (.done)))))) (.one 10 (.one 2 (.take 11 (.one 12 (.one 13 (.take 14 (.done)))))))) (.one 10 (.one 1 (.one 2 (.take 11 (.one 12 (.one 13 (.take 14 (.done))))))))))))) (.one 7 (.alt 1 (.alt 2 (.one 5 (.take 8 (.take 9 (.one 10 (.take 11 (.one 12 (.one 13 (.take 14 (.done))))))))) (.one 5 (.take 8 (.take 9 (.alt 2 (.one 10 (.take 11 (.one 12 (.one 13 (.take 14 (.done)))))) (.one 10 (.one 2 (.take 11 (.one 12 (.one 13 (.take 14 (.done)))))))))))) (.one 5 (.take 8 (.take 9 (.alt 1 (.alt 2 (.one 10 (.take 11 (.one 12 (.one 13 (.take 14 (.done)))))) (.one 10 (.one 2 (.take 11 (.one 12 (.one 13 (.take 14 (.done)))))))) (.one 10 (.one 1 (.one 2 (.take 11 (.one 12 (.one 13 (.take 14 (.done))))))))))))))))))) (.one 6 (.alt 1 (.alt 2 (.alt 4 (.alt 5 (.one 7 (.take 8 (.take 9 (.one 10 (.take 11 (.one 12 (.one 13 (.take 14 (.done))))))))) (.one 7 (.one 5 (.take 8 (.take 9 (.one 10 (.take 11 (.one 12 (.one 13 (.take 14 (.done))))))))))) (.one 7 (.one 4 (.one 5 (.take 8 (.take 9 (.one 10 (.take 11 (.one 12 (.one 13 (.take 14 (.done)))))))))))) (.alt 4 (.alt 2 (.alt 5 (.one 7 (.take 8 (.take 9 (.one 10 (.take 11 (.one 12 (.one 13 (.take 14 (.done))))))))) (.one 7 (.one 5 (.take 8 (.take 9 (.one 10 (.take 11 (.one 12 (.one 13 (.take 14 (.done))))))))))) (.alt 5 (.alt 2 (.one 7 (.take 8 (.take 9 (.one 10 (.take 11 (.one 12 (.one 13 (.take 14 (.done))))))))) (.one 7 (.take 8 (.take 9 (.alt 2 (.one 10 (.take 11 (.one 12 (.one 13 (.take 14 (.done)))))) (.one 10 (.one 2 (.take 11 (.one 12 (.one 13 (.take 14 (.done)))))))))))) (.one 7 (.alt 2 (.one 5 (.take 8 (.take 9 (.one 10 (.take 11 (.one 12 (.one 13 (.take 14 (.done))))))))) (.one 5 (.take 8 (.take 9 (.alt 2 (.one 10 (.take 11 (.one 12 (.one 13 (.take 14 (.done)))))) (.one 10 (.one 2 (.take 11 (.one 12 (.one 13 (.take 14 (.done))))))))))))))) (.one 7 (.alt 2 (.one 4 (.one 5 (.take 8 (.take 9 (.one 10 (.take 11 (.one 12 (.one 13 (.take 14 (.done)))))))))) (.one 4 (.alt 2 (.one 5 (.take 8 (.take 9 (.one 10 (.take 11 (.one 12 (.one 13 (.take 14 (.done))))))))) (.one 5 (.take 8 (.take 9 (.alt 2 (.one 10 (.take 11 (.one 12 (.one 13 (.take 14 (.done)))))) (.one 10 (.one 2 (.take 11 (.one 12 (.one 13 (.take 14 (.done))))))))))))))))) (.alt 4 (.alt 1 (.alt 2 (.alt 5 (.one 7 (.take 8 (.take 9 (.one 10 (.take 11 (.one 12 (.one 13 (.take 14 (.done))))))))) (.one 7 (.one 5 (.take 8 (.take 9 (.one 10 (.take 11 (.one 12 (.one 13 (.take 14 (.done))))))))))) (.alt 5 (.alt 2 (.one 7 (.take 8 (.take 9 (.one 10 (.take 11 (.one 12 (.one 13 (.take 14 (.done))))))))) (.one 7 (.take 8 (.take 9 (.alt 2 (.one 10 (.take 11 (.one 12 (.one 13 (.take 14 (.done)))))) (.one 10 (.one 2 (.take 11 (.one 12 (.one 13 (.take 14 (.done)))))))))))) (.one 7 (.alt 2 (.one 5 (.take 8 (.take 9 (.one 10 (.take 11 (.one 12 (.one 13 (.take 14 (.done))))))))) (.one 5 (.take 8 (.take 9 (.alt 2 (.one 10 (.take 11 (.one 12 (.one 13 (.take 14 (.done)))))) (.one 10 (.one 2 (.take 11 (.one 12 (.one 13 (.take 14 (.done))))))))))))))) (.alt 5 (.alt 1 (.alt 2 (.one 7 (.take 8 (.take 9 (.one 10 (.take 11 (.one 12 (.one 13 (.take 14 (.done))))))))) (.one 7 (.take 8 (.take 9 (.alt 2 (.one 10 (.take 11 (.one 12 (.one 13 (.take 14 (.done)))))) (.one 10 (.one 2 (.take 11 (.one 12 (.one 13 (.take 14 (.done)))))))))))) (.one 7 (.take 8 (.take 9 (.alt 1 (.alt 2 (.one 10 (.take 11 (.one 12 (.one 13 (.take 14 (.done)))))) (.one 10 (.one 2 (.take 11 (.one 12 (.one 13 (.take 14 (.done)))))))) (.one 10 (.one 1 (.one 2 (.take 11 (.one 12 (.one 13 (.take 14 (.done))))))))))))) (.one 7 (.alt 1 (.alt 2 (.one 5 (.take 8 (.take 9 (.one 10 (.take 11 (.one 12 (.one 13 (.take 14 (.done))))))))) (.one 5 (.take 8 (.take 9 (.alt 2 (.one 10 (.take 11 (.one 12 (.one 13 (.take 14 (.done)))))) (.one 10 (.one 2 (.take 11 (.one 12 (.one 13 (.take 14 (.done)))))))))))) (.one 5 (.take 8 (.take 9 (.alt 1 (.alt 2 (.one 10 (.take 11 (.one 12 (.one 13 (.take 14 (.done)))))) (.one 10 (.one 2 (.take 11 (.one 12 (.one 13 (.take 14 (.done)))))))) (.one 10 (.one 1 (.one 2 (.take 11 (.one 12 (.one 13 (.take 14 (.done)))))))))))))))) (.one 7 (.alt 1 (.alt 2 (.one 4 (.one 5 (.take 8 (.take 9 (.one 10 (.take 11 (.one 12 (.one 13 (.take 14 (.done)))))))))) (.one 4 (.alt 2 (.one 5 (.take 8 (.take 9 (.one 10 (.take 11 (.one 12 (.one 13 (.take 14 (.done))))))))) (.one 5 (.take 8 (.take 9 (.alt 2 (.one 10 (.take 11 (.one 12 (.one 13 (.take 14 (.done)))))) (.one 10 (.one 2 (.take 11 (.one 12 (.one 13 (.take 14 (.done)))))))))))))) (.one 4 (.alt 1 (.alt 2 (.one 5 (.take 8 (.take 9 (.one 10 (.take 11 (.one 12 (.one 13 (.take 14 (.done))))))))) (.one 5 (.take 8 (.take 9 (.alt 2 (.one 10 (.take 11 (.one 12 (.one 13 (.take 14 (.done)))))) (.one 10 (.one 2 (.take 11 (.one 12 (.one 13 (.take 14 (.done)))))))))))) (.one 5 (.take 8 (.take 9 (.alt 1 (.alt 2 (.one 10 (.take 11 (.one 12 (.one 13 (.take 14 (.done)))))) (.one 10 (.one 2 (.take 11 (.one 12 (.one 13 (.take 14 (.done)))))))) (.one 10 (.one 1 (.one 2 (.take 11 (.one 12 (.one 13 (.take 14 (.done)))))))))))))))))))))))
open Go.SX Go.RowKit Go.ChangeShapes Go.WideShapes Go.ChangeAt
def goodIn : List NodeV → List (List Int) → Prop
  | [], inp => inp = []
  | n :: r, inp => if n.kind ≠ 1 then goodIn r inp else ∃ x xs, inp = x :: xs ∧ ((x.length : Int) = entries n.shape.xs ∧ ∀ v ∈ x, n.lo ≤ v ∧ v ≤ n.hi) ∧ goodIn r xs
theorem goodIn_skip {n : NodeV} (hn : n.kind ≠ 1) : ∀ {l : List NodeV} {inp : List (List Int)}, goodIn l inp → goodIn (l ++ [n]) inp
  | [], inp, h => by
    simp only [List.nil_append, goodIn] at h ⊢
    rw [if_pos hn]; exact h
  | m :: r, inp, h => by
    simp only [List.cons_append, goodIn] at h ⊢
    by_cases hm : m.kind ≠ 1
    · rw [if_pos hm] at h ⊢; exact goodIn_skip hn h
    · rw [if_neg hm] at h ⊢
      obtain ⟨x, xs, h1, h2, h3⟩ := h
      exact ⟨x, xs, h1, h2, goodIn_skip hn h3⟩
theorem goodIn_next {n : NodeV} {y : List Int} (hn : n.kind = 1) (hy : (y.length : Int) = entries n.shape.xs ∧ ∀ v ∈ y, n.lo ≤ v ∧ v ≤ n.hi) : ∀ {l : List NodeV} {inp : List (List Int)}, goodIn l inp → goodIn (l ++ [n]) (inp ++ [y])
  | [], inp, h => by
    simp only [List.nil_append, goodIn] at h ⊢
    subst h
    rw [if_neg (fun h => h hn)]
    exact ⟨y, [], rfl, hy, rfl⟩
  | m :: r, inp, h => by
    simp only [List.cons_append, goodIn] at h ⊢
    by_cases hm : m.kind ≠ 1
    · rw [if_pos hm] at h ⊢; exact goodIn_next hn hy h
    · rw [if_neg hm] at h ⊢
      obtain ⟨x, xs, h1, h2, h3⟩ := h
      exact ⟨x, xs ++ [y], by rw [h1]; rfl, h2, goodIn_next hn hy h3⟩
theorem newSlices {w w' : World} {v : Value} {l : List IntsV} {T : TypeId} (h : NewRows w w' v 1 T (shRows l)) : ∃ base cap, v = .slice base l.length cap ∧ l.length ≤ cap ∧ (rowsA base 1 (shRows l)).holds (fun b => w.heap.size ≤ b ∧ b < w'.heap.size) w' := by
  obtain ⟨base, cap, e, h1⟩ := newRows_data h
  obtain ⟨lc, e2, F, hF, hr, hcap, _⟩ := h
  rw [e2] at e
  simp only [Value.slice.injEq] at e
  obtain ⟨e3, _, e4⟩ := e
  refine ⟨base, cap, ?_, ?_, h1⟩
  · rw [e2, e3, e4, shRows_length]
  · rw [← e4]; simpa [shRows_length] using hcap
structure InpOut (l : List NodeV) (x : ShapesV) : Prop where
  good : goodIn l (x.l.map IntsV.xs)
  sane : ∀ u ∈ x.l, u.sane
  room : x.l.length ≤ x.cap
  few : x.l.length ≤ l.length
abbrev InputsPost (w : World) (b : Nat) (t : BytesV) (l : List NodeV) : Ending → World → Prop := TPost w b t ShapesV.val shapesD (InpOut l)
theorem ends_inputs {w : World} {b : Nat} {t : BytesV} {l : List NodeV} {H : Heap} {S : Asn} {nx j m k : Nat} {us : List IntsV} (h0 : (0, Ent.box (cs (tcells t k)) 30) ∈ H) (he : (j, Ent.rows (shRows us) 1 33) ∈ H) (hj : j ≠ 0) (hm : m = us.length) (hk : k ≤ t.bs.length)
    (hg : goodIn l (us.map IntsV.xs)) (hs : ∀ u ∈ us, u.sane) (hf : us.length ≤ l.length) (hS : ∀ R w', S.holds R w' → (restA w b).holds R w') (hE : ∀ R w', S.holds R w' → (eachA w.heap.size us).holds R w') : finK ⟨w, [(0, boxL b)]⟩ (.os j m) H S nx (InputsPost w b t l) := by
  subst hm
  refine fin_of fun ρ w' hw => ?_
  have hn := box_rows hw hS h0 he hj
  rw [shRows_length] at hn
  obtain ⟨base, cap, e, hc, hD⟩ := newSlices hn
  refine ⟨(⟨base, cap, us⟩, k), ⟨⟨hg, hs, hc, hf⟩, hk⟩, by rw [e]; rfl, (box_end hw hS h0).1, (box_end hw hS h0).2, hD, fun u hu => ?_⟩
  exact box_new hw (D := intsA u) fun R w' h => hE R w' h u hu
/-- what is asked of the nodes -/
structure NodeRd (n : NodeV) : Prop where
  made : Made n
  near : bd20 n.lo ∧ bd20 n.hi ∧ n.lo ≤ n.hi
theorem next_le (w : World) (b : Nat) (t : BytesV) (k : Nat) (h : TapeOk w b t k) (n m : Int) (hm : 0 ≤ m ∧ m ≤ 4294967296) (hn : n = m + 1) : Calls Try.prog 41 #[.pointer (some ⟨b, 0, none⟩), .int .i64 n] w (NumPost w b t fun r => 0 ≤ r ∧ r ≤ m) := by
  refine (next_any w b t k h n ⟨by omega, by omega⟩).mono ?_
  rintro e w' ⟨x, ⟨⟨h1, h2, h3⟩, h4⟩, h5⟩
  refine ⟨x, ⟨⟨h1, ?_⟩, h4⟩, h5⟩
  rcases (by omega : 2 ≤ n ∨ n < 2) with g | g
  · have := h2 g; omega
  · have := h3 g; omega
set_option maxRecDepth 20000 in
set_option maxHeartbeats 2000000 in
theorem inputs_any (w : World) (b : Nat) (t : BytesV) (k : Nat) (h : TapeOk w b t k) (gb : Option Addr) (gc : Nat) (l : List NodeV) (out : Int) (hlen : l.length ≤ 24) (hr : (rowsA gb 9 (nodeRows l)).holds (oth w b) w) (hnd : (nodesD l).holds (oth w b) w) (hn : ∀ n ∈ l, NodeRd n) :
    Calls Try.prog 17 #[.agg #[.slice gb l.length gc, .int .i64 out], .pointer (some ⟨b, 0, none⟩)] w (InputsPost w b t l) := by
  obtain ⟨hs, hby, hd, hk, hb⟩ := h
  
  refine calls_of tab tabOk Try.func17 rfl rfl rfl [(0, boxL b)] (fun _ => boxL b) [.agg [.c (.slice gb l.length gc), .c (.int .i64 out)], .lp 0 0 0 0] _ (restA w b) 1 (by simp [SV.rfs, SV.rf, boxL, add_none]) rfl (by show 2 ≤ _; decide) (abs_box hb) ?_
  (repeat' ((conv => whnf) <;> first | (show drawK _ 10 _ _ _ _ _ _; refine draw_tree tabOk mixed [] _ dtJA0 (by kernel_rfl) (by kernel_rfl) (by kernel_rfl) (List.Sublist.refl _) ?_) | (show Wp _ _ _ _ _ _ _; refine Wp.go tabOk rfl ?_) | (show @cmpK _ _ _; (first | refine cmpY ?_ | refine cmpN ?_ | (refine cmp_both ?_ ?_ <;> intro _))) | (show wrapK _ _ _; refine wrapA ?_) | (show leK _ _ _; refine leA ?_) | (show roomK _ _ _; refine roomA ?_) | (show ltK _ _ _; refine ltA ?_) | (show _ ∧ _; refine ⟨?_, ?_⟩) | (show keepK _ _ _ _ _; refine keepA ?_) | refine own_keep ?_ | refine ap_old ?_))
  refine Wp.loop (σ := Nat × Nat × Nat × List IntsV) 3 (fun ⟨i, _, m, us⟩ => [(1, .lp 0 0 0 0), (2, .lp 1 0 0 0), (5, .os 2 m), (11, .c (.slice gb l.length gc)), (12, .c (.int .i64 l.length)), (13, .c (.int .i64 i))]) (fun ⟨_, k, _, us⟩ => [(2, .rows (shRows us) 1 33), (1, .box [.c (.slice gb l.length gc), .c (.int .i64 out)] 26), (0, .box (cs (tcells t k)) 30)]) (fun ⟨_, _, _, us⟩ => (restA w b).and (eachA w.heap.size us))
    (fun ⟨i, k, m, us⟩ => i ≤ l.length ∧ k ≤ t.bs.length ∧ goodIn (l.take i) (us.map IntsV.xs) ∧ (∀ u ∈ us, u.sane) ∧ us.length ≤ i ∧ m = us.length) (fun s => l.length - s.1) (0, k, 0, []) [(2, none)] (by decide) (fun s => ⟨rfl, rfl⟩) ⟨Nat.zero_le _, hk, rfl, fun u hu => by simp at hu, Nat.le_refl _, rfl⟩ ⟨rfl, ⟨rfl, rfl, rfl, rfl, rfl, rfl, trivial⟩, ⟨rfl, (by repeat (first | exact List.mem_cons_self | apply List.mem_cons_of_mem)), (by repeat (first | exact List.mem_cons_self | apply List.mem_cons_of_mem)), trivial⟩, fun R w' h => ⟨h, eachA_nil _ R w'⟩⟩ ?_
  rintro ⟨i, k, m, us⟩ ⟨hi, hk, hg, hus, huf, hml⟩
  subst hml
  by_cases hlt : i < l.length
  · obtain ⟨a, ha⟩ : ∃ a, gb = some a := base_some (j := i) (rowsA_in hr) (by rw [nodeRows_length]; omega)
    have hnm := List.getElem_mem hlt
    have htk := List.take_succ_eq_append_getElem hlt
    have hrow := nodeRows_get hlt
    generalize l[i] = n at *
    have hnn := hn n hnm
    obtain ⟨⟨lo1, lo2⟩, ⟨hi1, hi2⟩, hlh⟩ := hnn.near
    by_cases hk1 : n.kind = 1
    · (repeat' ((conv => whnf) <;> first | (show idxK _ _ _ _ _; refine idx_of a i ha rfl hlt ?_) | (show roAggK _ _ _ _; (refine roAgg_row (fun R w' h => by rw [← ha]; exact rowsA_in (rest_holds hr h.1)) _ hrow rfl ?_)) | (show drawK _ 10 _ _ _ _ _ _; refine draw_tree tabOk mixed [] _ dtJA0 (by kernel_rfl) (by kernel_rfl) (by kernel_rfl) (List.Sublist.refl _) ?_) | (show Wp _ _ _ _ _ _ _; refine Wp.go tabOk rfl ?_) | (show @cmpK _ _ _; (first | refine cmpY ?_ | refine cmpN ?_ | (refine cmp_both ?_ ?_ <;> intro _))) | (show wrapK _ _ _; refine wrapA ?_) | (show leK _ _ _; refine leA ?_) | (show roomK _ _ _; refine roomA ?_) | (show ltK _ _ _; refine ltA ?_) | (show _ ∧ _; refine ⟨?_, ?_⟩) | (show keepK _ _ _ _ _; refine keepA ?_) | refine own_keep ?_ | refine ap_old ?_))
      refine Wp.loop (σ := Nat × Nat × List Int) 5 (fun ⟨j, _, xs⟩ => [(1, .lp 0 0 0 0), (2, .lp 1 0 0 0), (5, .os 2 us.length), (7, .lp 3 0 0 0), (8, .os 4 j), (9, .c (.int .i64 j)), (11, .c (.slice gb l.length gc)), (12, .c (.int .i64 l.length)), (13, .c (.int .i64 i))]) (fun ⟨_, k, xs⟩ => [(4, .rows (ints xs) 1 3), (3, .box (cs n.cells) 38), (2, .rows (shRows us) 1 33), (1, .box [.c (.slice gb l.length gc), .c (.int .i64 out)] 26), (0, .box (cs (tcells t k)) 30)]) (fun _ => (restA w b).and (eachA w.heap.size us))
        (fun ⟨j, k, xs⟩ => (j : Int) ≤ entries n.shape.xs ∧ k ≤ t.bs.length ∧ xs.length = j ∧ ∀ v ∈ xs, n.lo ≤ v ∧ v ≤ n.hi) (fun s => (entries n.shape.xs).toNat - s.1) (0, k, []) [(4, none)] (by decide) (fun s => ⟨rfl, rfl⟩) ⟨(entries_bd _).1, hk, rfl, fun x hx => by simp at hx⟩ ⟨rfl, ⟨rfl, rfl, rfl, rfl, rfl, rfl, rfl, rfl, rfl, trivial⟩, ⟨rfl, (by repeat (first | exact List.mem_cons_self | apply List.mem_cons_of_mem)), (by repeat (first | exact List.mem_cons_self | apply List.mem_cons_of_mem)), (by repeat (first | exact List.mem_cons_self | apply List.mem_cons_of_mem)), (by repeat (first | exact List.mem_cons_self | apply List.mem_cons_of_mem)), trivial⟩, fun R w' h => h⟩ ?_
      rintro ⟨j, k, xs⟩ ⟨hj, hk, hl, hxs⟩
      have heb := (entries_bd n.shape.xs).2
      subst hl
      by_cases hjl : (xs.length : Int) < entries n.shape.xs
      · (repeat' ((conv => whnf) <;> first | (show callK _ 34 _ _ _ _ _; refine call_pure (f := 34) Try.call34 (.int .i64 (entries n.shape.xs)) (fun ρ w' hw => refEntries_any w' n.shape.base n.shape.cap n.shape.xs (holds_of_abs hw fun R h => rowsA_in (((rest_holds hnd h.1) n hnm).1 rfl))) ?_) | (show callK _ 41 _ _ _ _ _; (refine call_num (f := 41) [.int .i64 (n.hi - n.lo + 1)] t k _ (by repeat (first | exact List.mem_cons_self | apply List.mem_cons_of_mem)) Try.call41 hs hby hk (fun R w' h => rest_holds hd h.1) (fun w' b' ht => next_le w' b' t k ht (n.hi - n.lo + 1) (n.hi - n.lo) ⟨by omega, by omega⟩ rfl) (fun r k' hr hk' => ?_))) | (show drawK _ 10 _ _ _ _ _ _; refine draw_tree tabOk mixed [] [] dtJA1 (by kernel_rfl) (by kernel_rfl) (by kernel_rfl) (List.nil_sublist _) ?_) | (show keepK _ _ _ _ _; refine keep_of (List.nil_sublist _) (fun _ _ h => h) ?_) | (show leK _ _ _; (refine le_of (by rw [ints_length]; exact Nat.le_refl _) ?_)) | (show roomK _ _ _; (refine room_of (by show (xs.length + 1) * 8 ≤ 140737488355328; omega) ?_)) | (show Wp _ _ _ _ _ _ _; refine Wp.go tabOk rfl ?_) | (show @cmpK _ _ _; (first | refine cmpY ?_ | refine cmpN ?_ | (refine cmp_both ?_ ?_ <;> intro _))) | (show wrapK _ _ _; refine wrapA ?_) | (show leK _ _ _; refine leA ?_) | (show roomK _ _ _; refine roomA ?_) | (show ltK _ _ _; refine ltA ?_) | (show _ ∧ _; refine ⟨?_, ?_⟩) | (show keepK _ _ _ _ _; refine keepA ?_) | refine own_keep ?_ | refine ap_old ?_))
        all_goals (conv => whnf)
        all_goals exact ⟨(xs.length + 1, k', xs ++ [n.lo + r]), [(4, some 6)], ⟨by show ((xs.length + 1 : Nat) : Int) ≤ _; omega, hk', by simp, fun x hx => by
          rcases List.mem_append.1 hx with h | h
          · exact hxs x h
          · rw [List.mem_singleton.1 h]; omega⟩, by simp only; omega, rfl, ⟨rfl, rfl, rfl, rfl, rfl, rfl, rfl, rfl, rfl, trivial⟩, ⟨ints_snoc xs _, (by repeat (first | exact List.mem_cons_self | apply List.mem_cons_of_mem)), (by repeat (first | exact List.mem_cons_self | apply List.mem_cons_of_mem)), (by repeat (first | exact List.mem_cons_self | apply List.mem_cons_of_mem)), (by repeat (first | exact List.mem_cons_self | apply List.mem_cons_of_mem)), trivial⟩, fun R w' h => h⟩
      · refine Wp.freezeB 4 w.heap.size (k := 1) (xs := ints xs) (T := 3) (b0 := b) (cells := cs (tcells t k)) (T0 := 30) List.mem_cons_self (by repeat (first | exact List.mem_cons_self | apply List.mem_cons_of_mem)) (by repeat (first | exact List.mem_cons_self | apply List.mem_cons_of_mem)) (by decide) (fun R w' h x hx hne => (h.1 x ⟨hx, hne⟩).1) (fun l1 hl1 => ?_)
        (repeat' ((conv => whnf) <;> first | (show callK _ 34 _ _ _ _ _; refine call_pure (f := 34) Try.call34 (.int .i64 (entries n.shape.xs)) (fun ρ w' hw => refEntries_any w' n.shape.base n.shape.cap n.shape.xs (holds_of_abs hw fun R h => rowsA_in (((rest_holds hnd h.1.1) n hnm).1 rfl))) ?_) | (show leK _ _ _; (refine le_of (by rw [shRows_length]; exact Nat.le_refl _) ?_)) | (show roomK _ _ _; (refine room_of (by show (us.length + 1) * 24 ≤ 140737488355328; omega) ?_)) | (show drawK _ 10 _ _ _ _ _ _; refine draw_tree tabOk mixed [] _ dtJA0 (by kernel_rfl) (by kernel_rfl) (by kernel_rfl) (List.Sublist.refl _) ?_) | (show Wp _ _ _ _ _ _ _; refine Wp.go tabOk rfl ?_) | (show @cmpK _ _ _; (first | refine cmpY ?_ | refine cmpN ?_ | (refine cmp_both ?_ ?_ <;> intro _))) | (show wrapK _ _ _; refine wrapA ?_) | (show leK _ _ _; refine leA ?_) | (show roomK _ _ _; refine roomA ?_) | (show ltK _ _ _; refine ltA ?_) | (show _ ∧ _; refine ⟨?_, ?_⟩) | (show keepK _ _ _ _ _; refine keepA ?_) | refine own_keep ?_ | refine ap_old ?_))
        all_goals (conv => whnf)
        all_goals exact ⟨(i + 1, k, us.length + 1, us ++ [IntsV.mk l1.base l1.cap xs]), [(2, some 6)], ⟨hlt, hk, by rw [htk, List.map_append]; exact goodIn_next hk1 ⟨by show (xs.length : Int) = _; omega, hxs⟩ hg, fun u hu => by
          rcases List.mem_append.1 hu with h | h
          · exact hus u h
          · rw [List.mem_singleton.1 h]
            exact ⟨fun x hx => by have := hxs x hx; omega, by simpa [ints_length] using hl1, by show xs.length ≤ _; omega⟩, by rw [List.length_append, List.length_singleton]; omega, by simp⟩, by simp only; omega, rfl, ⟨rfl, rfl, rfl, rfl, rfl, rfl, trivial⟩, ⟨rows_snoc us (IntsV.mk l1.base l1.cap xs), (by repeat (first | exact List.mem_cons_self | apply List.mem_cons_of_mem)), (by repeat (first | exact List.mem_cons_self | apply List.mem_cons_of_mem)), trivial⟩, fun R w' h => ⟨h.1.1, eachA_snoc (u := IntsV.mk l1.base l1.cap xs) h.1.2 h.2⟩⟩
    · (repeat' ((conv => whnf) <;> first | (show idxK _ _ _ _ _; refine idx_of a i ha rfl hlt ?_) | (show roAggK _ _ _ _; (refine roAgg_row (fun R w' h => by rw [← ha]; exact rowsA_in (rest_holds hr h.1)) _ hrow rfl ?_)) | (show drawK _ 10 _ _ _ _ _ _; refine draw_tree tabOk mixed [] _ dtJA0 (by kernel_rfl) (by kernel_rfl) (by kernel_rfl) (List.Sublist.refl _) ?_) | (show Wp _ _ _ _ _ _ _; refine Wp.go tabOk rfl ?_) | (show @cmpK _ _ _; (first | refine cmpY ?_ | refine cmpN ?_ | (refine cmp_both ?_ ?_ <;> intro _))) | (show wrapK _ _ _; refine wrapA ?_) | (show leK _ _ _; refine leA ?_) | (show roomK _ _ _; refine roomA ?_) | (show ltK _ _ _; refine ltA ?_) | (show _ ∧ _; refine ⟨?_, ?_⟩) | (show keepK _ _ _ _ _; refine keepA ?_) | refine own_keep ?_ | refine ap_old ?_))
      all_goals (conv => whnf)
      all_goals exact ⟨(i + 1, k, us.length, us), [], ⟨hlt, hk, by rw [htk]; exact goodIn_skip hk1 hg, hus, by omega, rfl⟩, by simp only; omega, rfl, ⟨rfl, rfl, rfl, rfl, rfl, rfl, trivial⟩, ⟨(by repeat (first | exact List.mem_cons_self | apply List.mem_cons_of_mem)), (by repeat (first | exact List.mem_cons_self | apply List.mem_cons_of_mem)), (by repeat (first | exact List.mem_cons_self | apply List.mem_cons_of_mem)), trivial⟩, fun _ _ h => h⟩
  · obtain rfl : i = l.length := by omega
    rw [List.take_of_length_le (Nat.le_refl _)] at hg
    (repeat' ((conv => whnf) <;> first | (show drawK _ 10 _ _ _ _ _ _; refine draw_tree tabOk mixed [] _ dtJA0 (by kernel_rfl) (by kernel_rfl) (by kernel_rfl) (List.Sublist.refl _) ?_) | (show Wp _ _ _ _ _ _ _; refine Wp.go tabOk rfl ?_) | (show @cmpK _ _ _; (first | refine cmpY ?_ | refine cmpN ?_ | (refine cmp_both ?_ ?_ <;> intro _))) | (show wrapK _ _ _; refine wrapA ?_) | (show leK _ _ _; refine leA ?_) | (show roomK _ _ _; refine roomA ?_) | (show ltK _ _ _; refine ltA ?_) | (show _ ∧ _; refine ⟨?_, ?_⟩) | (show keepK _ _ _ _ _; refine keepA ?_) | refine own_keep ?_ | refine ap_old ?_))
    all_goals (conv => whnf)
    exact ends_inputs (by repeat (first | exact List.mem_cons_self | apply List.mem_cons_of_mem)) (by repeat (first | exact List.mem_cons_self | apply List.mem_cons_of_mem)) (by decide) rfl hk hg hus huf (fun _ _ h => h.1) (fun _ _ h => h.2)
end Go.Proofs.Ytdmkdogakbipbaa

/- JB -/
namespace Go.Proofs.Ytdmkdogakbipbaa
open Go.SX Go.RowKit
theorem foldl_min_geJ {m : Int} : ∀ (l : List Int) (x : Int), m ≤ x → (∀ y ∈ l, m ≤ y) → m ≤ l.foldl min x
  | [], x, h, _ => h
  | z :: r, x, h, hl => by
    rw [List.foldl_cons]
    have := hl z List.mem_cons_self
    exact foldl_min_geJ r _ (by omega) fun y hy => hl y (List.mem_cons_of_mem _ hy)
theorem foldl_max_leJ {m : Int} : ∀ (l : List Int) (x : Int), x ≤ m → (∀ y ∈ l, y ≤ m) → l.foldl max x ≤ m
  | [], x, h, _ => h
  | z :: r, x, h, hl => by
    rw [List.foldl_cons]
    have := hl z List.mem_cons_self
    exact foldl_max_leJ r _ (by omega) fun y hy => hl y (List.mem_cons_of_mem _ hy)
theorem foldI_ge {l : List Int} {m : Int} (hn : l ≠ []) (h : ∀ y ∈ l, m ≤ y) : m ≤ foldI min l := by
  cases l with
  | nil => exact absurd rfl hn
  | cons x r => exact foldl_min_geJ r x (h x List.mem_cons_self) fun y hy => h y (List.mem_cons_of_mem _ hy)
theorem foldI_le2 {l : List Int} {m : Int} (hn : l ≠ []) (h : ∀ y ∈ l, y ≤ m) : foldI max l ≤ m := by
  cases l with
  | nil => exact absurd rfl hn
  | cons x r => exact foldl_max_leJ r x (h x List.mem_cons_self) fun y hy => h y (List.mem_cons_of_mem _ hy)
def mkI (l : List Int) : IntsV := ⟨none, l.length, l⟩
theorem mkI_sane {l : List Int} (h : ∀ x ∈ l, bd20 x) (hl : l.length ≤ 64) : (mkI l).sane := ⟨fun x hx => by have := h x hx; unfold bd20 at this; show _ ∧ _; omega, Nat.le_refl _, by show l.length ≤ _; omega⟩
theorem vals_run {g : GraphV} (hsp : (spansH g).1 = 0) : ∀ {r : List NodeV} {k : Nat} {kn : List IntsV} {inp : List (List Int)}, k ≤ g.l.length → g.l.drop k = r → KnownH g kn k → goodIn r inp → ∃ kn' : List IntsV, valsQ (check g).2 r (kn.map IntsV.xs) inp = (0, kn'.map IntsV.xs) ∧ KnownH g kn' g.l.length
  | [], k, kn, inp, hk, hr, hkn, hg => by
    simp only [goodIn] at hg
    subst hg
    have : g.l.length ≤ k := List.drop_eq_nil_iff.1 hr
    obtain rfl : k = g.l.length := by omega
    exact ⟨kn, by simp [valsQ], hkn⟩
  | n :: r, k, kn, inp, hk, hr, hkn, hg => by
    obtain ⟨hck, hsl, hsi⟩ := spansH_in hsp
    obtain ⟨hl1, hl24, hout, hcl, hin⟩ := check_in hck
    have hlt : k < g.l.length := by
      rcases Nat.lt_or_ge k g.l.length with h | h
      · exact h
      · rw [List.drop_eq_nil_of_le h] at hr; cases hr
    have hdrop : g.l.drop k = g.l[k] :: g.l.drop (k + 1) := List.drop_eq_getElem_cons hlt
    rw [hdrop] at hr
    have hgk : g.l[k]? = some n := by rw [List.getElem?_eq_getElem hlt]; simp only [List.cons.injEq] at hr; rw [hr.1]
    have hr2 : g.l.drop (k + 1) = r := by simp only [List.cons.injEq] at hr; exact hr.2
    obtain ⟨s, hs, hni⟩ := hin k n hgk
    obtain ⟨p, hp, hpe, hp1, hp2⟩ := hsi k n hgk
    obtain ⟨⟨ha0, hal2, hai⟩, ⟨hb0, hbl2, hbi⟩, cnt, hcnt0, hpl⟩ := place_in hck hgk
    have e1 : (check g).2.getD k [] = s := by rw [List.getD_eq_getElem?_getD, hs]; rfl
    rw [e1] at hcnt0 hpl
    have hcb := (entries_bd s).2
    have hkl := hkn.len
    have hkml : (kn.map IntsV.xs).length = k := by rw [List.length_map, hkl]
    have hti : ((check g).2.take k).length = k := by rw [List.length_take, hcl]; omega
    have hform := hni.form
    rw [hti] at hform
    simp only [goodIn] at hg
    by_cases hk1 : n.kind = 1
    · rw [if_neg (fun h => h hk1)] at hg
      obtain ⟨x, xs, rfl, ⟨hx1, hx2⟩, hg⟩ := hg
      have hsx : s = n.shape.xs := by
        have := hni.shape
        unfold shapeO at this
        rw [if_pos (.inl hk1)] at this
        simpa using this.symm
      have hL : endsAt (check g).2 n ((spansH g).2.take k) = [n.lo, n.hi] := by
        unfold endsAt endsA
        rw [if_neg (by unfold isLin; omega)]
        exact if_pos hk1
      have hwi : within p x := by
        rw [hpe]
        unfold spanAt spanE
        rw [hL]
        intro z hz
        have m1 : foldI min [n.lo, n.hi] = min n.lo n.hi := rfl
        have m2 : foldI max [n.lo, n.hi] = max n.lo n.hi := rfl
        have := hx2 z hz
        simp only [m1, m2]
        omega
      have hxl : x.length ≤ 64 := by rw [← hsx] at hx1; omega
      have hne : x ≠ [] := by
        intro e
        have := hpl.few
        rw [e] at hx1
        rw [← hsx] at hx1
        simp only [List.length_nil] at hx1
        omega
      have hbad : ¬ ((x.length : Int) ≠ entries s ∨ foldI min x < n.lo ∨ n.hi < foldI max x) := by
        rw [hsx]
        have h1 : n.lo ≤ foldI min x := foldI_ge hne fun y hy => (hx2 y hy).1
        have h2 : foldI max x ≤ n.hi := foldI_le2 hne fun y hy => (hx2 y hy).2
        omega
      have hv : valsQ (check g).2 (n :: r) (kn.map IntsV.xs) (x :: xs) = valsQ (check g).2 r (kn.map IntsV.xs ++ [x]) xs := by
        conv => lhs; unfold valsQ
        rw [if_neg (fun h => h hk1)]
        simp only
        rw [hkml, e1, if_neg hbad]
      rw [hv]
      have hkn2 := known_snocH hkn (x := mkI x) (mkI_sane (fun y hy => by have := hwi y hy; unfold bd20; omega) hxl) hp hs hwi (by show (x.length : Int) = _; rw [hsx]; exact hx1)
      have := vals_run hsp (by omega) hr2 hkn2 hg
      rw [List.map_append] at this
      exact this
    · rw [if_pos hk1] at hg
      have kA := known_argH hsp hkn (by omega) n.a.toNat
      have kB := known_argH hsp hkn (by omega) n.b.toNat
      have hnum := num_inH hsp hkn (by omega) (formed_of hform)
      have hpl' : PlaceIn n ((check g).2.take k) s (mkI ((check g).2.getD n.a.toNat [])).xs cnt := hpl
      have hwn := nums_in hpl' hk1 hnum kA.1 kB.1
      have hEq : endsAt (check g).2 n ((spansH g).2.take k) = endsA n cnt (mkI ((check g).2.getD n.a.toNat [])).xs (((spansH g).2.take k).getD n.a.toNat (0, 0)) (((spansH g).2.take k).getD n.b.toNat (0, 0)) := by
        unfold endsAt
        rw [show ((spansH g).2.take k).length = k by rw [List.length_take, hsl]; omega, e1, hcnt0]; rfl
      have hv : valsQ (check g).2 (n :: r) (kn.map IntsV.xs) inp = valsQ (check g).2 r (kn.map IntsV.xs ++ [numsA n cnt (mkI ((check g).2.getD n.a.toNat [])).xs (kn.getD n.a.toNat nilI).xs (kn.getD n.b.toNat nilI).xs]) inp := by
        conv => lhs; unfold valsQ
        unfold numsAt
        rw [if_pos hk1, getD_xs, getD_xs, hkml, e1, hcnt0]; rfl
      rw [hv]
      have hwi : within p (numsA n cnt (mkI ((check g).2.getD n.a.toNat [])).xs (kn.getD n.a.toNat nilI).xs (kn.getD n.b.toNat nilI).xs) := by
        rw [hpe]; unfold spanAt; rw [hEq]; exact hwn.1
      have hkn2 := known_snocH hkn (x := mkI (numsA n cnt (mkI ((check g).2.getD n.a.toNat [])).xs (kn.getD n.a.toNat nilI).xs (kn.getD n.b.toNat nilI).xs)) (mkI_sane (fun y hy => by have := hwi y hy; unfold bd20; omega) (by rw [hwn.2]; exact hpl.few.2)) hp hs hwi (by show ((numsA _ _ _ _ _).length : Int) = _; rw [hwn.2, hcnt0])
      have := vals_run hsp (by omega) hr2 hkn2 hg
      rw [List.map_append] at this
      exact this
theorem vals_good {g : GraphV} (hsp : (spansH g).1 = 0) {inp : List (List Int)} (hg : goodIn g.l inp) : ∃ vals, valsH g inp = (0, vals) ∧ ∀ i, i < g.l.length → within ((spansH g).2.getD i (0, 0)) (vals.getD i []) := by
  obtain ⟨kn, h1, h2⟩ := vals_run hsp (k := 0) (kn := []) (Nat.zero_le _) rfl ⟨rfl, fun u hu => by simp at hu, fun j u s q hu => by simp at hu⟩ hg
  refine ⟨kn.map IntsV.xs, h1, fun i hi => ?_⟩
  have := (known_argH hsp h2 (Nat.le_refl _) i).1
  rw [getD_xs, List.take_of_length_le (by rw [(spansH_in hsp).2.1]; exact Nat.le_refl _)] at this
  exact this
end Go.Proofs.Ytdmkdogakbipbaa

/- PI -/
namespace Go.Proofs.Ytdmkdogakbipbaa
open Go.SX Go.RowKit
theorem toV_pl (p : NodeP) : p.toV.pl = p := rfl
theorem toV_map2 : ∀ {l : List NodeP}, (l.map NodeP.toV).map NodeV.pl = l
  | [] => rfl
  | p :: l => by rw [List.map_cons, List.map_cons, toV_pl, toV_map2]
theorem toV_map {l : List NodeV} : ((l.map NodeV.pl).map NodeP.toV).map NodeV.pl = l.map NodeV.pl := toV_map2
theorem tidied_tells {g : GraphV} (hsp : (spansH g).1 = 0) {inp V : List (List Int)} (hv : valsQ (check g).2 g.l [] inp = (0, V)) : ∃ rsh rsp, ∀ h : GraphV, h.l.map NodeV.pl = (tidyP (g.l.map NodeV.pl) (check g).2 g.out.toNat).1 → h.out = ((tidyP (g.l.map NodeV.pl) (check g).2 g.out.toNat).2 : Int) → check h = (0, rsh) ∧ spansH h = (0, rsp) ∧ runH h inp = (0, V.getD g.out.toNat []) := by
  obtain ⟨hck, _, _⟩ := spansH_in hsp
  obtain ⟨hl1, hl24, hout, hcl, hin⟩ := check_in hck
  obtain ⟨q, e1, hq⟩ := run_of hv
  rw [List.nil_append] at e1
  subst e1
  have hq2 := hq.of_pl (m := (g.l.map NodeV.pl).map NodeP.toV) toV_map
  obtain ⟨rsh, rsp, W, hR, ho, hlen, hrun, hval⟩ := tidyP_run (rowOk_graph hsp) (out := g.out.toNat) (by rw [List.length_map]; omega) hq2
  rw [List.length_map] at hlen
  generalize tidyP (g.l.map NodeV.pl) (check g).2 g.out.toNat = X at *
  refine ⟨rsh, rsp, fun h e2 e3 => ?_⟩
  have h1 : check h = (0, rsh) := hR.check (by omega) e2 (by omega) (by omega)
  have h2 : spansH h = (0, rsp) := hR.spans (by omega) e2 (by omega) (by omega)
  have hr := run_to (hrun.of_pl (m := h.l) (by rw [toV_map2]; exact e2))
  refine ⟨h1, h2, ?_⟩
  unfold runH valsH
  rw [h2, h1, hr, if_neg (by simp), if_neg (by simp), e3, Int.toNat_natCast]
  simp only [List.nil_append]
  rw [hval]
theorem pl_ins {l : List NodeV} : (l.filter (fun n => decide (n.kind = 1))).map NodeV.pl = (l.map NodeV.pl).filter isInP := by
  rw [List.filter_map]
  rfl
theorem tidied_ins {g : GraphV} (hsp : (spansH g).1 = 0) {h : GraphV} (e : h.l.map NodeV.pl = (tidyP (g.l.map NodeV.pl) (check g).2 g.out.toNat).1) : (h.l.filter (fun n => decide (n.kind = 1))).map NodeV.pl = (g.l.filter (fun n => decide (n.kind = 1))).map NodeV.pl := by
  rw [pl_ins, pl_ins, e]
  exact tidyP_ins (by rw [(rowOk_graph hsp).lenS]; exact Nat.le_refl _)
theorem tidied_few {g : GraphV} (hsp : (spansH g).1 = 0) : (tidyP (g.l.map NodeV.pl) (check g).2 g.out.toNat).1.length ≤ g.l.length ∧ (tidyP (g.l.map NodeV.pl) (check g).2 g.out.toNat).2 < (tidyP (g.l.map NodeV.pl) (check g).2 g.out.toNat).1.length := by
  obtain ⟨hck, _, _⟩ := spansH_in hsp
  obtain ⟨hl1, hl24, hout, hcl, hin⟩ := check_in hck
  obtain ⟨rsh, rsp, hR, h2, h3, _⟩ := tidyP_again (rowOk_graph hsp) (out := g.out.toNat) (by rw [List.length_map]; omega)
  rw [List.length_map] at h3
  exact ⟨h3, h2⟩
end Go.Proofs.Ytdmkdogakbipbaa

/- NP -/
namespace Go.Proofs.Ytdmkdogakbipbaa
open Go.SX Go.RowKit
end Go.Proofs.Ytdmkdogakbipbaa

/- NQ -/
namespace Go.Proofs.Ytdmkdogakbipbaa
open Go.SX Go.RowKit
end Go.Proofs.Ytdmkdogakbipbaa

/- JE -/
namespace Go.Proofs.Ytdmkdogakbipbaa
open Go.SX Go.RowKit
def setT (r : List Int) (t : Sp) : List Int := r.set t.2.toNat t.1
end Go.Proofs.Ytdmkdogakbipbaa

/- JF -/
namespace Go.Proofs.Ytdmkdogakbipbaa
open Go.SX Go.RowKit
def matRow (n : NodeV) (tl : List Int) (o : Nat) : List Int :=
  if n.kind = 3 then (n.data.xs.drop (o * (entries tl).toNat)).take (entries tl).toNat else (termsG n tl o).foldl setT (List.replicate (entries tl).toNat 0)
def matRows (n : NodeV) (tl : List Int) (cnt : Nat) : List (List Int) := (List.range cnt).map (matRow n tl)
def matBias (n : NodeV) (cnt : Nat) : List Int := (List.range cnt).map (biasI n cnt)
end Go.Proofs.Ytdmkdogakbipbaa

/- JG -/
namespace Go.Proofs.Ytdmkdogakbipbaa
open Go.SX Go.RowKit
/-- what Matrix hands back -/
structure MatV where
  rows : ShapesV
  bias : IntsV
  own : Bool
def MatV.val (x : MatV) : Value := .tuple #[x.rows.val, x.bias.val]
structure MatIs (n : NodeV) (tl : List Int) (cnt : Nat) (x : MatV) : Prop where
  rows : x.rows.l.map IntsV.xs = matRows n tl cnt
  bias : x.bias.xs = matBias n cnt
  sane : ∀ u ∈ x.rows.l, u.sane
  biasSane : x.bias.sane
  old : x.own = false → x.bias = n.bias ∧ ∀ w, n.data.ok w → ∀ u ∈ x.rows.l, u.ok w
end Go.Proofs.Ytdmkdogakbipbaa

/- JH -/
namespace Go.Proofs.Ytdmkdogakbipbaa
open Go.SX Go.RowKit
end Go.Proofs.Ytdmkdogakbipbaa

/- JI -/
namespace Go.Proofs.Ytdmkdogakbipbaa
open Go.SX Go.RowKit
/-- rows so far -/
structure Sofar3 (n : NodeV) (tl : List Int) (us : List IntsV) (o : Nat) : Prop where
  rows : us.map IntsV.xs = (List.range o).map (matRow n tl)
  sane : ∀ u ∈ us, u.sane
theorem Sofar3.len {n : NodeV} {tl : List Int} {us : List IntsV} {o : Nat} (h : Sofar3 n tl us o) : us.length = o := by
  have := congrArg List.length h.rows
  simpa using this
theorem Sofar3.next {n : NodeV} {tl : List Int} {us : List IntsV} {o : Nat} {u : IntsV} (h : Sofar3 n tl us o) (hu : u.sane) (hx : u.xs = matRow n tl o) : Sofar3 n tl (us ++ [u]) (o + 1) := by
  refine ⟨by rw [List.map_append, h.rows, List.range_succ, List.map_append, List.map_cons, List.map_nil, List.map_cons, List.map_nil, hx], fun v hv => ?_⟩
  rcases List.mem_append.1 hv with hv | hv
  · exact h.sane v hv
  · rw [List.mem_singleton.1 hv]; exact hu
end Go.Proofs.Ytdmkdogakbipbaa

/- JJ -/
namespace Go.Proofs.Ytdmkdogakbipbaa
open Go.SX Go.RowKit
end Go.Proofs.Ytdmkdogakbipbaa

/- JK -/
namespace Go.Proofs.Ytdmkdogakbipbaa
open Go.SX Go.RowKit
structure SofarC (n : NodeV) (tl : List Int) (cnt : Nat) (us : List IntsV) (bs : List Int) (m : Nat) : Prop where
  rows : Sofar3 n tl us m
  bias : bs = (List.range m).map (biasI n cnt)
theorem SofarC.next {n : NodeV} {tl : List Int} {cnt : Nat} {us : List IntsV} {bs : List Int} {m : Nat} {u : IntsV} {b : Int} (h : SofarC n tl cnt us bs m) (hu : u.sane) (hx : u.xs = matRow n tl m) (hb : biasI n cnt m = b) : SofarC n tl cnt (us ++ [u]) (bs ++ [b]) (m + 1) :=
  ⟨h.rows.next hu hx, by rw [h.bias, ← hb, List.range_succ, List.map_append]; rfl⟩
end Go.Proofs.Ytdmkdogakbipbaa

/- JL -/
namespace Go.Proofs.Ytdmkdogakbipbaa
open Go.SX Go.RowKit
end Go.Proofs.Ytdmkdogakbipbaa

/- JM -/
namespace Go.Proofs.Ytdmkdogakbipbaa
open Go.SX Go.RowKit
end Go.Proofs.Ytdmkdogakbipbaa

/- JN -/
namespace Go.Proofs.Ytdmkdogakbipbaa
open Go.SX Go.RowKit
end Go.Proofs.Ytdmkdogakbipbaa

