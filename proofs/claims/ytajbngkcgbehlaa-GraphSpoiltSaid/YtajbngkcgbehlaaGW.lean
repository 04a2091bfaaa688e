import Derived.Test.YtajbngkcgbehlaaGV
namespace Go.Proofs.Ytajbngkcgbehlaa
open Go.SX Go.RowKit
def NodeV.valA (n : NodeV) : Value := .agg n.cells.toArray
def nilI : IntsV := ⟨none, 0, []⟩
/-- a node's numbers; al: its shape is another's -/
def nodeD (n : NodeV) (al : Bool) : Asn where
  holds R w := (al = false → (intsA n.shape).holds R w) ∧ (intsA n.data).holds R w ∧ (intsA n.bias).holds R w
  stable := fun hR hw h => ⟨fun e => (intsA n.shape).stable hR hw (h.1 e), (intsA n.data).stable hR hw h.2.1, (intsA n.bias).stable hR hw h.2.2⟩
theorem nilI_holds (R : Nat → Prop) (w : World) : (intsA nilI).holds R w := ⟨fun r hr => by simp [nilI, ints] at hr, .inl rfl⟩
theorem own_new {w w' : World} {b : Nat} {ρ : Nat → SX.Loc} {nx j m : Nat} {H : Heap} {S : Asn} {cells : List SV} {T : TypeId} {xs : List Int} (hw : Abs ⟨w, [(0, boxL b)]⟩ ρ nx H S w') (hS : ∀ R w', S.holds R w' → (restA w b).holds R w') (h0 : (0, Ent.box cells T) ∈ H) (he : (j, Ent.rows (ints xs) 1 3) ∈ H) (hj : j ≠ 0) (hm : m = xs.length) (hf : ∀ x ∈ xs, i64 x) (hl : xs.length ≤ 1000000) :
    ∃ u : IntsV, (SV.os j m).rf ρ = u.val ∧ u.xs = xs ∧ u.sane ∧ (intsA u).holds (fun y => w.heap.size ≤ y ∧ y < w'.heap.size) w' := by
  subst hm
  have hn := box_rows hw hS h0 he hj
  rw [ints_length] at hn
  exact newInts hn hf hl
/-- what a made node is -/
structure Made (n : NodeV) : Prop where
  shape : n.shape.sane
  data : n.data.sane
  bias : n.bias.sane
  shapeFew : n.shape.xs.length ≤ 4
  dataFew : n.data.xs.length ≤ 1000
  biasFew : n.bias.xs.length ≤ 200
  kindFits : i64 n.kind
  aFits : i64 n.a
  bFits : i64 n.b
  loFits : i64 n.lo
  hiFits : i64 n.hi
  sizeFits : i64 n.size
theorem nilI_sane : nilI.sane := ⟨by simp [nilI], Nat.le_refl _, by simp [nilI]⟩
/-- a shape that a made graph has -/
structure ShOk (s : List Int) : Prop where
  pos : 0 < entries s
  few : entries s ≤ 18
  three : s.length = 3 → s.getD 0 0 ≤ 2 ∧ s.getD 1 0 * s.getD 2 0 ≤ 9
structure IsInput (n : NodeV) : Prop where
  made : Made n
  kind : n.kind = 1
  a : n.a = 0
  b : n.b = 0
  shape : ShOk n.shape.xs
  lo : -4 ≤ n.lo ∧ n.lo ≤ 4
  hi : n.lo ≤ n.hi ∧ n.hi ≤ 9
  size : n.size = 0
  data : n.data = nilI
  bias : n.bias = nilI
abbrev InPost (w : World) (b : Nat) (t : BytesV) : Ending → World → Prop := TPost w b t NodeV.valA (fun n => nodeD n false) IsInput
theorem z0 : i64 0 := ⟨by decide, by decide⟩
theorem z1 : i64 1 := ⟨by decide, by decide⟩
theorem fits_of {xs : List Int} (h : (xs.all fun x => decide (0 ≤ x ∧ x ≤ 1000)) = true) : ∀ x ∈ xs, i64 x := fun x hx => by
  have := List.all_eq_true.1 h x hx
  simp only [decide_eq_true_eq] at this
  exact ⟨by omega, by omega⟩
theorem ends_input {w : World} {b : Nat} {t : BytesV} {H : Heap} {S : Asn} {nx j m k : Nat} {xs : List Int} {lo hi : Int} (h0 : (0, Ent.box (cs (tcells t k)) 39) ∈ H) (he : (j, Ent.rows (ints xs) 1 3) ∈ H) (hj : j ≠ 0) (hm : m = xs.length) (hx : ∀ x ∈ xs, i64 x) (hl : xs.length ≤ 3) (hen : ShOk xs) (hk : k ≤ t.bs.length)
    (hlo : -4 ≤ lo ∧ lo ≤ 4) (hhi : lo ≤ hi ∧ hi ≤ 9) (hS : ∀ R w', S.holds R w' → (restA w b).holds R w') :
    finK ⟨w, [(0, boxL b)]⟩ (.agg [.c (.int .i64 1), .c (.int .i64 0), .c (.int .i64 0), .os j m, .c (.int .i64 lo), .c (.int .i64 hi), .c (.int .i64 0), .c (.slice none 0 0), .c (.slice none 0 0)]) H S nx (InPost w b t) := by
  refine fin_of fun ρ w' hw => ?_
  obtain ⟨u, e, h1, h2, h3⟩ := own_new hw hS h0 he hj hm hx (by omega)
  refine ⟨(⟨1, 0, 0, u, lo, hi, 0, nilI, nilI⟩, k), ⟨⟨⟨h2, nilI_sane, nilI_sane, by rw [h1]; omega, by simp [nilI], by simp [nilI], z1, z0, z0, ⟨by simp only; omega, by simp only; omega⟩, ⟨by simp only; omega, by simp only; omega⟩, z0⟩, rfl, rfl, rfl, by rw [h1]; exact hen, hlo, hhi, rfl, rfl, rfl⟩, hk⟩, ?_, (box_end hw hS h0).1, (box_end hw hS h0).2, fun _ => h3, nilI_holds _ _, nilI_holds _ _⟩
  simp only [SV.rf, SV.rfs] at e ⊢
  rw [e]
  rfl
theorem ent_1 : ShOk [1] := ⟨by unfold entries; decide, by unfold entries; decide, by decide⟩
theorem ent_2 : ShOk [2] := ⟨by unfold entries; decide, by unfold entries; decide, by decide⟩
theorem ent_3 : ShOk [3] := ⟨by unfold entries; decide, by unfold entries; decide, by decide⟩
theorem ent_22 : ShOk [2, 2] := ⟨by unfold entries; decide, by unfold entries; decide, by decide⟩
theorem ent_122 : ShOk [1, 2, 2] := ⟨by unfold entries; decide, by unfold entries; decide, by decide⟩
theorem ent_221 : ShOk [2, 2, 1] := ⟨by unfold entries; decide, by unfold entries; decide, by decide⟩
theorem ent_133 : ShOk [1, 3, 3] := ⟨by unfold entries; decide, by unfold entries; decide, by decide⟩
theorem ent_142 : ShOk [1, 4, 2] := ⟨by unfold entries; decide, by unfold entries; decide, by decide⟩
set_option maxRecDepth 20000 in
set_option maxHeartbeats 4000000 in
theorem input_any (w : World) (b : Nat) (t : BytesV) (k : Nat) (h : TapeOk w b t k) :
    Calls Try.prog 49 #[.pointer (some ⟨b, 0, none⟩)] w (InPost w b t) := by
  obtain ⟨hs, hby, hd, hk, hb⟩ := h
  refine calls_of tab tabOk Try.func49 rfl rfl rfl [(0, boxL b)] (fun _ => boxL b) [.lp 0 0 0 0] _ (restA w b) 1 (by simp [SV.rfs, SV.rf, boxL, add_none]) rfl (by show 1 ≤ _; decide) (abs_box hb) ?_
  (repeat' ((conv => whnf) <;> first | (show Wp _ _ _ _ _ _ _; (refine Wp.go tabOk rfl ?_)) | (show @cmpK _ _ _; (first | refine cmp_yes (by omega) ?_ | refine cmp_no (by omega) ?_ | (refine cmp_both ?_ ?_ <;> intro _))) | (show wrapK _ _ _; (refine wrap_i64 (by omega) (by omega) ?_)) | (show leK _ _ _; (refine le_of (by first | exact Nat.le_refl _ | omega) ?_)) | (show roomK _ _ _; (refine room_of (by first | omega | (dsimp only; omega)) ?_)) | (show ltK _ _ _; (refine lt_of (by omega) ?_)) | (show _ ∧ _; (refine ⟨?_, ?_⟩)) | (show keepK _ _ _ _ _; (refine keep_of (by first | exact List.Sublist.refl _ | exact List.Sublist.cons _ (List.Sublist.refl _) | exact List.Sublist.cons _ (List.Sublist.cons _ (List.Sublist.refl _)) | exact List.Sublist.cons _ (List.Sublist.cons _ (List.Sublist.cons _ (List.Sublist.refl _)))) (by first | exact (fun _ _ h => h) | exact (fun _ _ h => h.1) | exact (fun _ _ h => h.1.1)) ?_)) | (show ownK _ _ _ _ _; (refine own_keep ?_))))
  refine call_num (f := 50) [.int .i64 8] t k _ (by first | exact List.mem_cons_self | exact List.mem_cons_of_mem _ List.mem_cons_self | (repeat (first | exact List.mem_cons_self | apply List.mem_cons_of_mem))) Try.call50 hs hby hk (fun R w' h => rest_holds hd h) (fun w' b' ht => next_any w' b' t k ht 8 ⟨by decide, by decide⟩) (fun r k1 hr hk1 => ?_)
  have hr8 : r = 0 ∨ r = 1 ∨ r = 2 ∨ r = 3 ∨ r = 4 ∨ r = 5 ∨ r = 6 ∨ r = 7 := by have := hr.1; have := hr.2.1 (by omega); omega
  rcases hr8 with rfl | rfl | rfl | rfl | rfl | rfl | rfl | rfl
  all_goals
    (repeat' ((conv => whnf) <;> first | (show Wp _ _ _ _ _ _ _; (refine Wp.go tabOk rfl ?_)) | (show @cmpK _ _ _; (first | refine cmp_yes (by omega) ?_ | refine cmp_no (by omega) ?_ | (refine cmp_both ?_ ?_ <;> intro _))) | (show wrapK _ _ _; (refine wrap_i64 (by omega) (by omega) ?_)) | (show leK _ _ _; (refine le_of (by first | exact Nat.le_refl _ | omega) ?_)) | (show roomK _ _ _; (refine room_of (by first | omega | (dsimp only; omega)) ?_)) | (show ltK _ _ _; (refine lt_of (by omega) ?_)) | (show _ ∧ _; (refine ⟨?_, ?_⟩)) | (show keepK _ _ _ _ _; (refine keep_of (by first | exact List.Sublist.refl _ | exact List.Sublist.cons _ (List.Sublist.refl _) | exact List.Sublist.cons _ (List.Sublist.cons _ (List.Sublist.refl _)) | exact List.Sublist.cons _ (List.Sublist.cons _ (List.Sublist.cons _ (List.Sublist.refl _)))) (by first | exact (fun _ _ h => h) | exact (fun _ _ h => h.1) | exact (fun _ _ h => h.1.1)) ?_)) | (show ownK _ _ _ _ _; (refine own_keep ?_))))
    refine call_num (f := 94) [] t k1 _ (by first | exact List.mem_cons_self | exact List.mem_cons_of_mem _ List.mem_cons_self | (repeat (first | exact List.mem_cons_self | apply List.mem_cons_of_mem))) Try.call94 hs hby hk1 (fun R w' h => rest_holds hd h) (fun w' b' ht => small_any w' b' t k1 ht) (fun lo k2 hlo hk2 => ?_)
    (repeat' ((conv => whnf) <;> first | (show Wp _ _ _ _ _ _ _; (refine Wp.go tabOk rfl ?_)) | (show @cmpK _ _ _; (first | refine cmp_yes (by omega) ?_ | refine cmp_no (by omega) ?_ | (refine cmp_both ?_ ?_ <;> intro _))) | (show wrapK _ _ _; (refine wrap_i64 (by omega) (by omega) ?_)) | (show leK _ _ _; (refine le_of (by first | exact Nat.le_refl _ | omega) ?_)) | (show roomK _ _ _; (refine room_of (by first | omega | (dsimp only; omega)) ?_)) | (show ltK _ _ _; (refine lt_of (by omega) ?_)) | (show _ ∧ _; (refine ⟨?_, ?_⟩)) | (show keepK _ _ _ _ _; (refine keep_of (by first | exact List.Sublist.refl _ | exact List.Sublist.cons _ (List.Sublist.refl _) | exact List.Sublist.cons _ (List.Sublist.cons _ (List.Sublist.refl _)) | exact List.Sublist.cons _ (List.Sublist.cons _ (List.Sublist.cons _ (List.Sublist.refl _)))) (by first | exact (fun _ _ h => h) | exact (fun _ _ h => h.1) | exact (fun _ _ h => h.1.1)) ?_)) | (show ownK _ _ _ _ _; (refine own_keep ?_))))
    refine call_num (f := 50) [.int .i64 6] t k2 _ (by first | exact List.mem_cons_self | exact List.mem_cons_of_mem _ List.mem_cons_self | (repeat (first | exact List.mem_cons_self | apply List.mem_cons_of_mem))) Try.call50 hs hby hk2 (fun R w' h => rest_holds hd h) (fun w' b' ht => next_any w' b' t k2 ht 6 ⟨by decide, by decide⟩) (fun r k3 hr hk3 => ?_)
    have hr1 := hr.1
    have hr2 := hr.2.1 (by omega)
    (repeat' ((conv => whnf) <;> first | (show Wp _ _ _ _ _ _ _; (refine Wp.go tabOk rfl ?_)) | (show @cmpK _ _ _; (first | refine cmp_yes (by omega) ?_ | refine cmp_no (by omega) ?_ | (refine cmp_both ?_ ?_ <;> intro _))) | (show wrapK _ _ _; (refine wrap_i64 (by omega) (by omega) ?_)) | (show leK _ _ _; (refine le_of (by first | exact Nat.le_refl _ | omega) ?_)) | (show roomK _ _ _; (refine room_of (by first | omega | (dsimp only; omega)) ?_)) | (show ltK _ _ _; (refine lt_of (by omega) ?_)) | (show _ ∧ _; (refine ⟨?_, ?_⟩)) | (show keepK _ _ _ _ _; (refine keep_of (by first | exact List.Sublist.refl _ | exact List.Sublist.cons _ (List.Sublist.refl _) | exact List.Sublist.cons _ (List.Sublist.cons _ (List.Sublist.refl _)) | exact List.Sublist.cons _ (List.Sublist.cons _ (List.Sublist.cons _ (List.Sublist.refl _)))) (by first | exact (fun _ _ h => h) | exact (fun _ _ h => h.1) | exact (fun _ _ h => h.1.1)) ?_)) | (show ownK _ _ _ _ _; (refine own_keep ?_))))
    conv => whnf
  · exact ends_input (j := 2) (xs := [1]) (by first | exact List.mem_cons_self | exact List.mem_cons_of_mem _ List.mem_cons_self | (repeat (first | exact List.mem_cons_self | apply List.mem_cons_of_mem))) (by first | exact List.mem_cons_self | exact List.mem_cons_of_mem _ List.mem_cons_self | (repeat (first | exact List.mem_cons_self | apply List.mem_cons_of_mem))) (by decide) rfl (fits_of rfl) (by decide) ent_1 hk3 hlo ⟨by omega, by omega⟩ (fun _ _ h => h)
  · exact ends_input (j := 3) (xs := [2]) (by first | exact List.mem_cons_self | exact List.mem_cons_of_mem _ List.mem_cons_self | (repeat (first | exact List.mem_cons_self | apply List.mem_cons_of_mem))) (by first | exact List.mem_cons_self | exact List.mem_cons_of_mem _ List.mem_cons_self | (repeat (first | exact List.mem_cons_self | apply List.mem_cons_of_mem))) (by decide) rfl (fits_of rfl) (by decide) ent_2 hk3 hlo ⟨by omega, by omega⟩ (fun _ _ h => h)
  · exact ends_input (j := 4) (xs := [3]) (by first | exact List.mem_cons_self | exact List.mem_cons_of_mem _ List.mem_cons_self | (repeat (first | exact List.mem_cons_self | apply List.mem_cons_of_mem))) (by first | exact List.mem_cons_self | exact List.mem_cons_of_mem _ List.mem_cons_self | (repeat (first | exact List.mem_cons_self | apply List.mem_cons_of_mem))) (by decide) rfl (fits_of rfl) (by decide) ent_3 hk3 hlo ⟨by omega, by omega⟩ (fun _ _ h => h)
  · exact ends_input (j := 5) (xs := [2, 2]) (by first | exact List.mem_cons_self | exact List.mem_cons_of_mem _ List.mem_cons_self | (repeat (first | exact List.mem_cons_self | apply List.mem_cons_of_mem))) (by first | exact List.mem_cons_self | exact List.mem_cons_of_mem _ List.mem_cons_self | (repeat (first | exact List.mem_cons_self | apply List.mem_cons_of_mem))) (by decide) rfl (fits_of rfl) (by decide) ent_22 hk3 hlo ⟨by omega, by omega⟩ (fun _ _ h => h)
  · exact ends_input (j := 6) (xs := [1, 2, 2]) (by first | exact List.mem_cons_self | exact List.mem_cons_of_mem _ List.mem_cons_self | (repeat (first | exact List.mem_cons_self | apply List.mem_cons_of_mem))) (by first | exact List.mem_cons_self | exact List.mem_cons_of_mem _ List.mem_cons_self | (repeat (first | exact List.mem_cons_self | apply List.mem_cons_of_mem))) (by decide) rfl (fits_of rfl) (by decide) ent_122 hk3 hlo ⟨by omega, by omega⟩ (fun _ _ h => h)
  · exact ends_input (j := 7) (xs := [2, 2, 1]) (by first | exact List.mem_cons_self | exact List.mem_cons_of_mem _ List.mem_cons_self | (repeat (first | exact List.mem_cons_self | apply List.mem_cons_of_mem))) (by first | exact List.mem_cons_self | exact List.mem_cons_of_mem _ List.mem_cons_self | (repeat (first | exact List.mem_cons_self | apply List.mem_cons_of_mem))) (by decide) rfl (fits_of rfl) (by decide) ent_221 hk3 hlo ⟨by omega, by omega⟩ (fun _ _ h => h)
  · exact ends_input (j := 8) (xs := [1, 3, 3]) (by first | exact List.mem_cons_self | exact List.mem_cons_of_mem _ List.mem_cons_self | (repeat (first | exact List.mem_cons_self | apply List.mem_cons_of_mem))) (by first | exact List.mem_cons_self | exact List.mem_cons_of_mem _ List.mem_cons_self | (repeat (first | exact List.mem_cons_self | apply List.mem_cons_of_mem))) (by decide) rfl (fits_of rfl) (by decide) ent_133 hk3 hlo ⟨by omega, by omega⟩ (fun _ _ h => h)
  · exact ends_input (j := 9) (xs := [1, 4, 2]) (by first | exact List.mem_cons_self | exact List.mem_cons_of_mem _ List.mem_cons_self | (repeat (first | exact List.mem_cons_self | apply List.mem_cons_of_mem))) (by first | exact List.mem_cons_self | exact List.mem_cons_of_mem _ List.mem_cons_self | (repeat (first | exact List.mem_cons_self | apply List.mem_cons_of_mem))) (by decide) rfl (fits_of rfl) (by decide) ent_142 hk3 hlo ⟨by omega, by omega⟩ (fun _ _ h => h)
end Go.Proofs.Ytajbngkcgbehlaa
