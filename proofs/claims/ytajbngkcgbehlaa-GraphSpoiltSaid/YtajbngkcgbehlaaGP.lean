import Derived.Test.YtajbngkcgbehlaaGO
namespace Go.Proofs.Ytajbngkcgbehlaa
open Go.SX Go.RowKit
theorem call_rshape {cx : Cx} {f : FuncId} {args : List SV} {H : Heap} {S : Asn} {nx : Nat} {K : SV → Heap → Asn → Nat → Prop} {n : NodeV} {l : List IntsV} (R0 : Option (List Int)) (hf : ∀ ar w, (callFunc f ar).run cx.P w = .ok (.enter f ar) w)
    (hn : ∀ R w', S.holds R w' → n.shape.ok w') (hl : ∀ u ∈ l, ∀ R w', S.holds R w' → u.ok w') (hpos : ∀ xs, R0 = some xs → 0 < xs.length)
    (hc : ∀ ρ w', Abs cx.B ρ nx H S w' → Calls cx.P f (SV.rfs ρ args).toArray w' (RShapePost w' n l R0))
    (h0 : R0 = none → K (.c (.slice none 0 0)) H S nx)
    (h1 : ∀ (a : Addr) (cap : Nat) (xs : List Int) (S' : Asn), R0 = some xs → (∀ R w', S'.holds R w' → S.holds R w' ∧ (⟨some a, cap, xs⟩ : IntsV).ok w') → (⟨some a, cap, xs⟩ : IntsV).sane → K (.c (.slice (some a) xs.length cap)) H S' nx) : callK cx f args H S nx K := by
  rw [callK_def]
  refine ⟨hf, fun ρ w hw => (hc ρ w hw).mono ?_⟩
  rintro e w' ⟨v, rfl, he, hnone, hv⟩
  have hw' := hw.ext he
  cases hr : R0 with
  | none =>
    rw [hnone hr]
    exact ⟨.c (.slice none 0 0), ρ, H, S, nx, rfl, fun _ _ => rfl, Nat.le_refl _, SV.lt_c _, hw', h0 hr⟩
  | some xs =>
    obtain ⟨u, rfl, hu, hcase⟩ := hv xs hr
    obtain ⟨ub, uc, us⟩ := u
    simp only at hu
    subst hu
    have old : ∀ (hok : ∀ R w', S.holds R w' → (⟨ub, uc, us⟩ : IntsV).ok w'), ∃ v' ρ' H' S' nx', Ending.returned (IntsV.val ⟨ub, uc, us⟩) = .returned (v'.rf ρ') ∧ (∀ i, i < nx → ρ' i = ρ i) ∧ nx ≤ nx' ∧ v'.lt nx' ∧ Abs cx.B ρ' nx' H' S' w' ∧ K v' H' S' nx' := fun hok => by
      have h := holds_of_abs hw' fun R h => hok R w' h
      obtain ⟨a, ha⟩ := h.base (hpos us hr)
      simp only at ha
      subst ha
      exact ⟨.c (.slice (some a) us.length uc), ρ, H, S, nx, rfl, fun _ _ => rfl, Nat.le_refl _, SV.lt_c _, hw', h1 a uc us S hr (fun R w'' g => ⟨g, hok R w'' g⟩) h.sane⟩
    rcases hcase with hcase | hcase | ⟨hsane, hnew⟩
    · exact old (fun R w' h => hcase ▸ hn R w' h)
    · exact old (hl _ hcase)
    · have hg := hw.grow (D := intsA ⟨ub, uc, us⟩) he hnew
      have h : (⟨ub, uc, us⟩ : IntsV).ok w' := intsA_ok hsane hnew
      obtain ⟨a, ha⟩ := h.base (hpos us hr)
      simp only at ha
      subst ha
      exact ⟨.c (.slice (some a) us.length uc), ρ, H, _, nx, rfl, fun _ _ => rfl, Nat.le_refl _, SV.lt_c _, hg, h1 a uc us _ hr (fun R w'' g => ⟨g.1, intsA_ok hsane ((intsA _).mono g.2 (fun b hb => hb.1))⟩) hsane⟩
theorem near_own {B : Base} {ρ : Nat → SX.Loc} {nx : Nat} {H : Heap} {S : Asn} {w : World} {i m : Nat} {T : TypeId} {R : List (List Value)} {xs : List Int} (hw : Abs B ρ nx H S w) (he : (i, Ent.rows R 1 T) ∈ H) (hR : R = ints xs) (hm : m = xs.length) (hf : ∀ x ∈ xs, i64 x) (hl : xs.length ≤ 1000000) :
    Calls Try.prog 48 (SV.rfs ρ [.os i m]).toArray w fun e w' => e = .returned (.bool (nearL xs)) ∧ Ext w w' := by
  obtain ⟨v, e1, rfl, hv⟩ := own_ints hw he hR hm hf hl
  rw [e1]; exact refNear_any w v hv
theorem rows_snoc2 (us : List IntsV) (l : SX.Loc) (xs : List Int) {i : Nat} {T : TypeId} {H : Heap} : (i, Ent.rows (shRows (us ++ [IntsV.mk l.base l.cap xs])) 1 T) ∈ (i, Ent.rows (List.take us.length (shRows us) ++ [[.slice l.base (0 + (ints xs).length) l.cap]]) 1 T) :: H := by
  have e : Value.slice l.base (0 + (ints xs).length) l.cap = IntsV.val ⟨l.base, l.cap, xs⟩ := by rw [ints_length, Nat.zero_add]; rfl
  rw [e]
  exact rows_snoc us _
/-- new rows of numbers, frozen -/
theorem frozen_newA {N : Nat} {l : SX.Loc} {xs : List Int} {R : List (List Value)} {S : Asn} (hR : R = ints xs) : ∀ Q w', (S.and ((rowsA l.base 1 R).past N)).holds Q w' → (newA N ⟨l.base, l.cap, xs⟩).holds Q w' := by
  subst hR
  exact fun Q w' h => h.2
set_option maxRecDepth 20000 in
set_option maxHeartbeats 8000000 in
theorem refCheck_any (w : World) (g : GraphV) (hg : g.ok w) : Calls Try.prog 18 #[g.val] w (CheckPost w (check g)) := by
  by_cases hc : g.l.length < 1 ∨ 24 < g.l.length ∨ g.out < 0 ∨ (g.l.length : Int) ≤ g.out
  · have hs : check g = (3, []) := by unfold check; rw [if_pos hc]
    rw [hs]
    refine calls_of tab tabOk Try.func18 rfl rfl rfl [] (fun _ => ⟨none, 0⟩) [.agg [.c (.slice g.base g.l.length g.cap), .c (.int .i64 g.out)]] [] (baseA w) 0 rfl rfl (by show 1 ≤ _; decide) (abs_base w) ?_
    (repeat' ((conv => whnf) <;> first | (show Wp _ _ _ _ _ _ _; (refine Wp.go tabOk rfl ?_)) | (show @cmpK _ _ _; (first | refine cmp_yes (by omega) ?_ | refine cmp_no (by omega) ?_ | (refine cmp_both ?_ ?_ <;> intro _))) | (show wrapK _ _ _; (refine wrap_i64 (by omega) (by omega) ?_)) | (show leK _ _ _; (refine le_of (by first | exact Nat.le_refl _ | omega) ?_)) | (show roomK _ _ _; (refine room_of (by first | omega | (dsimp only; omega)) ?_)) | (show ltK _ _ _; (refine lt_of (by omega) ?_)) | (show _ ∧ _; (refine ⟨?_, ?_⟩)) | (show keepK _ _ _ _ _; (refine keep_of (by first | exact List.Sublist.refl _ | exact List.Sublist.cons _ (List.Sublist.refl _) | exact List.Sublist.cons _ (List.Sublist.cons _ (List.Sublist.refl _)) | exact List.Sublist.cons _ (List.Sublist.cons _ (List.Sublist.cons _ (List.Sublist.refl _)))) (by first | exact (fun _ _ h => h) | exact (fun _ _ h => h.1) | exact (fun _ _ h => h.1.1)) ?_)) | (show ownK _ _ _ _ _; (refine own_keep ?_))))
    all_goals exact ends_bad (fun _ _ h => h) rfl rfl (by decide)
  · have hs : check g = checkR g.l [] := by unfold check; rw [if_neg hc]
    rw [hs]
    obtain ⟨a, ha⟩ : ∃ a, g.base = some a := base_some (j := 0) hg.rows (by rw [nodeRows_length]; omega)
    refine calls_of tab tabOk Try.func18 rfl rfl rfl [] (fun _ => ⟨none, 0⟩) [.agg [.c (.slice g.base g.l.length g.cap), .c (.int .i64 g.out)]] [] (baseA w) 0 rfl rfl (by show 1 ≤ _; decide) (abs_base w) ?_
    (repeat' ((conv => whnf) <;> first | (show Wp _ _ _ _ _ _ _; (refine Wp.go tabOk rfl ?_)) | (show @cmpK _ _ _; (first | refine cmp_yes (by omega) ?_ | refine cmp_no (by omega) ?_ | (refine cmp_both ?_ ?_ <;> intro _))) | (show wrapK _ _ _; (refine wrap_i64 (by omega) (by omega) ?_)) | (show leK _ _ _; (refine le_of (by first | exact Nat.le_refl _ | omega) ?_)) | (show roomK _ _ _; (refine room_of (by first | omega | (dsimp only; omega)) ?_)) | (show ltK _ _ _; (refine lt_of (by omega) ?_)) | (show _ ∧ _; (refine ⟨?_, ?_⟩)) | (show keepK _ _ _ _ _; (refine keep_of (by first | exact List.Sublist.refl _ | exact List.Sublist.cons _ (List.Sublist.refl _) | exact List.Sublist.cons _ (List.Sublist.cons _ (List.Sublist.refl _)) | exact List.Sublist.cons _ (List.Sublist.cons _ (List.Sublist.cons _ (List.Sublist.refl _)))) (by first | exact (fun _ _ h => h) | exact (fun _ _ h => h.1) | exact (fun _ _ h => h.1.1)) ?_)) | (show ownK _ _ _ _ _; (refine own_keep ?_))))
    refine Wp.loop (σ := Nat × List IntsV) 2 (fun ⟨k, us⟩ => [(32, .c (.slice g.base g.l.length g.cap)), (33, .c (.int .i64 g.l.length)), (34, .c (.int .i64 k)), (4, .os 1 k)]) (fun ⟨_, us⟩ => [(1, .rows (shRows us) 1 32)]) (fun ⟨_, us⟩ => (baseA w).and (eachA w.heap.size us))
      (fun ⟨k, us⟩ => k ≤ g.l.length ∧ us.length = k ∧ (∀ u ∈ us, u.sane ∧ 0 < entries u.xs) ∧ checkR g.l [] = checkR (g.l.drop k) (us.map (·.xs))) (fun s => g.l.length - s.1) (0, []) [(1, none)] (by decide) (fun s => ⟨rfl, rfl⟩) ⟨by simp, rfl, by simp, rfl⟩ ⟨rfl, ⟨rfl, rfl, rfl, rfl, trivial⟩, ⟨rfl, trivial⟩, fun R w' h => ⟨h, eachA_nil _ _ _⟩⟩ ?_
    rintro ⟨k, us⟩ ⟨hk, hul, hus, he⟩
    by_cases hlt : k < g.l.length
    · rw [drop_at hlt] at he
      have hn := hg.each _ (List.getElem_mem hlt)
      have hsm := hg.small _ (List.getElem_mem hlt)
      generalize hnk : g.l[k] = n at *
      have hrow : (nodeRows g.l)[k]? = some n.cells := by rw [nodeRows_get hlt, hnk]
      subst hul
      have hgs : ∀ s ∈ us.map (·.xs), 0 < entries s := fun s hs => by obtain ⟨u, hu, rfl⟩ := List.mem_map.1 hs; exact (hus u hu).2
      have hlm : (us.map (·.xs)).length = us.length := List.length_map _
      have fL : ∀ x ∈ [n.lo, n.hi], i64 x := by intro x hx; simp at hx; rcases hx with rfl | rfl; exact hn.loFits; exact hn.hiFits
      (repeat' ((conv => whnf) <;> first | (show idxK _ _ _ _ _; (refine idx_of a us.length ha rfl hlt ?_)) | (show roAggK _ _ _ _; (refine roAgg_row (fun R w' h => by rw [← ha]; exact rows_base h.1 hg.rows) _ hrow rfl ?_)) | (show callK _ 46 _ _ _ _ _; ((refine call_bool (f := 46) Try.call46 _ (fun ρ w' hw => refForm_any w' n (holds_of_abs hw fun R h => hn.later h.1) us.length) ?_ ?_ <;> intro hform))) | (show callK _ 47 _ _ _ _ _; (refine call_rshape (f := 47) (n := n) (l := us) (shapeO n (us.map fun x : IntsV => x.xs)) Try.call47 (fun R w' h => hn.shape.later h.1) (fun u hu R w' h => intsA_ok (hus u hu).1 ((intsA u).mono (h.2 u hu) (fun b hb => hb.1))) (fun xs hr => (entries_dims (shape_good (n := n) (sh := us.map fun x : IntsV => x.xs) (by rw [List.length_map]; exact formed_of hform) hgs hr rfl)).1) (fun ρ w' hw => refShape_any w' n (holds_of_abs hw fun R h => hn.later h.1) ⟨(ρ 1).base, (ρ 1).cap, us⟩ (shapes_abs hw (List.mem_cons_of_mem _ List.mem_cons_self) (fun R w' h => h.2) hus (by omega)) (formed_of hform) (fun s hs => (hus s hs).2)) (fun hr => ?_) (fun ua uc xs S' hr hS' hsane => ?_))) | (show callK _ 48 [.c n.data.val] _ _ _ _; ((refine call_bool (f := 48) Try.call48 _ (fun ρ w' hw => refNear_any w' n.data (holds_of_abs hw fun R h => hn.data.later (hS' _ _ h).1.1)) ?_ ?_ <;> intro hnd))) | (show callK _ 48 [.c n.bias.val] _ _ _ _; ((refine call_bool (f := 48) Try.call48 _ (fun ρ w' hw => refNear_any w' n.bias (holds_of_abs hw fun R h => hn.bias.later (hS' _ _ h).1.1)) ?_ ?_ <;> intro hnb))) | (show callK _ 48 _ _ _ _ _; ((refine call_bool (f := 48) Try.call48 _ (fun ρ w' hw => near_own hw List.mem_cons_self (xs := [n.lo, n.hi]) rfl rfl fL (by simp)) ?_ ?_ <;> intro hnl))) | (show pureK _ _ _; (first | refine slice_nil_yes (ti 32 rfl) rfl ?_ | refine slice_nil_no (ti 32 rfl) rfl rfl ?_)) | (show roRowsK _ _ _ _ _; (refine roRows_in (ints_length xs) (fun R w' h => (hS' R w' h).2.rows) ints_row ?_)) | (show ownK _ ((_, Ent.rows (_ ++ ints _) _ _) :: _) _ _ _; (refine own_freeze w.heap.size (fun R w' h b hb => ((hS' R w' h).1.1 b hb).1) (fun l hl => ?_))) | (show leK _ _ _; (refine le_of (by first | exact Nat.zero_le _ | (rw [shRows_length]; exact Nat.le_refl _)) ?_)) | (show roomK _ _ _; (refine room_of (by first | (show (us.length + 1) * 24 ≤ 140737488355328; omega) | (show (0 + (ints xs).length) * 8 ≤ 140737488355328; rw [ints_length]; have := hsane.few; simp only at this; omega)) ?_)) | (show Wp _ _ _ _ _ _ _; (refine Wp.go tabOk rfl ?_)) | (show @cmpK _ _ _; (first | refine cmp_yes (by omega) ?_ | refine cmp_no (by omega) ?_ | (refine cmp_both ?_ ?_ <;> intro _))) | (show wrapK _ _ _; (refine wrap_i64 (by omega) (by omega) ?_)) | (show leK _ _ _; (refine le_of (by first | exact Nat.le_refl _ | omega) ?_)) | (show roomK _ _ _; (refine room_of (by first | omega | (dsimp only; omega)) ?_)) | (show ltK _ _ _; (refine lt_of (by omega) ?_)) | (show _ ∧ _; (refine ⟨?_, ?_⟩)) | (show keepK _ _ _ _ _; (refine keep_of (by first | exact List.Sublist.refl _ | exact List.Sublist.cons _ (List.Sublist.refl _) | exact List.Sublist.cons _ (List.Sublist.cons _ (List.Sublist.refl _)) | exact List.Sublist.cons _ (List.Sublist.cons _ (List.Sublist.cons _ (List.Sublist.refl _)))) (by first | exact (fun _ _ h => h) | exact (fun _ _ h => h.1) | exact (fun _ _ h => h.1.1)) ?_)) | (show ownK _ _ _ _ _; (refine own_keep ?_))))
      all_goals (conv => whnf)
      · exact ends_bad (B := ⟨w, []⟩) (fun _ _ h => h.1) rfl (he.trans (checkR_shape (by rw [hlm]; exact hform) hr)) (by decide)
      · exact ends_bad (B := ⟨w, []⟩) (fun R w' h => (hS' R w' h).1.1) rfl (he.trans (checkR_near (by rw [hlm]; exact hform) hr (by unfold nearB; rw [hnd, hnb, hnl, decide_eq_false (by omega)]; rfl))) (by decide)
      · exact ⟨(us.length + 1, us ++ [IntsV.mk l.base l.cap xs]), [(1, some 7)], ⟨hlt, by simp, each_snoc hus ⟨hsane.fits, by simpa [ints_length] using hl, hsane.few⟩ (shape_good (by rw [hlm]; exact formed_of hform) hgs hr rfl), he.trans ((checkR_next (by rw [hlm]; exact hform) hr (by unfold nearB; rw [hnd, hnb, hnl, decide_eq_true (by omega)]; rfl)).trans (by rw [List.map_append]; rfl))⟩, by simp only; omega, rfl, ⟨rfl, rfl, rfl, rfl, trivial⟩, ⟨rows_snoc2 us l xs, trivial⟩, fun R w' h => ⟨(hS' R w' h.1).1.1, eachA_snoc (hS' R w' h.1).1.2 h.2⟩⟩
      · exact ends_bad (B := ⟨w, []⟩) (fun R w' h => (hS' R w' h).1.1) rfl (he.trans (checkR_near (by rw [hlm]; exact hform) hr (by unfold nearB; rw [hnl]; simp))) (by decide)
      · exact ends_bad (B := ⟨w, []⟩) (fun R w' h => (hS' R w' h).1.1) rfl (he.trans (checkR_near (by rw [hlm]; exact hform) hr (by unfold nearB; rw [hnb]; simp))) (by decide)
      · exact ends_bad (B := ⟨w, []⟩) (fun R w' h => (hS' R w' h).1.1) rfl (he.trans (checkR_near (by rw [hlm]; exact hform) hr (by unfold nearB; rw [hnd]; simp))) (by decide)
      · exact ends_bad (B := ⟨w, []⟩) (fun _ _ h => h.1) rfl (he.trans (checkR_form (by rw [hlm]; exact hform))) (by decide)
    · rw [List.drop_of_length_le (by omega)] at he
      subst hul
      (repeat' ((conv => whnf) <;> first | (show Wp _ _ _ _ _ _ _; (refine Wp.go tabOk rfl ?_)) | (show @cmpK _ _ _; (first | refine cmp_yes (by omega) ?_ | refine cmp_no (by omega) ?_ | (refine cmp_both ?_ ?_ <;> intro _))) | (show wrapK _ _ _; (refine wrap_i64 (by omega) (by omega) ?_)) | (show leK _ _ _; (refine le_of (by first | exact Nat.le_refl _ | omega) ?_)) | (show roomK _ _ _; (refine room_of (by first | omega | (dsimp only; omega)) ?_)) | (show ltK _ _ _; (refine lt_of (by omega) ?_)) | (show _ ∧ _; (refine ⟨?_, ?_⟩)) | (show keepK _ _ _ _ _; (refine keep_of (by first | exact List.Sublist.refl _ | exact List.Sublist.cons _ (List.Sublist.refl _) | exact List.Sublist.cons _ (List.Sublist.cons _ (List.Sublist.refl _)) | exact List.Sublist.cons _ (List.Sublist.cons _ (List.Sublist.cons _ (List.Sublist.refl _)))) (by first | exact (fun _ _ h => h) | exact (fun _ _ h => h.1) | exact (fun _ _ h => h.1.1)) ?_)) | (show ownK _ _ _ _ _; (refine own_keep ?_))))
      conv => whnf
      exact ends_good (B := ⟨w, []⟩) (fun _ _ h => h.1) (fun _ _ h => h.2) (fun u hu => (hus u hu).1) rfl List.mem_cons_self rfl he
end Go.Proofs.Ytajbngkcgbehlaa
