import Derived.Test.YtdmkdogakbipbaaRows
import Derived.Test.YtdmkdogakbipbaaKTidyConstant4
/- GW -/
namespace Go.Proofs.Ytdmkdogakbipbaa
open Go.SX Go.RowKit
def NodeV.valA (n : NodeV) : Value := .agg n.cells.toArray
def nilI : IntsV := ⟨none, 0, []⟩
/-- a node's numbers; al: its shape is another's -/
def nodeD (n : NodeV) (al : Bool) : Asn where
  holds R w := (al = false → (intsA n.shape).holds R w) ∧ (intsA n.data).holds R w ∧ (intsA n.bias).holds R w
  stable := fun hR hw h => ⟨fun e => (intsA n.shape).stable hR hw (h.1 e), (intsA n.data).stable hR hw h.2.1, (intsA n.bias).stable hR hw h.2.2⟩
theorem nilI_holds (R : Nat → Prop) (w : World) : (intsA nilI).holds R w := ⟨fun r hr => by simp [nilI, ints] at hr, .inl rfl⟩
theorem own_new {w w' : World} {b : Nat} {ρ : Nat → SX.Loc} {nx j m : Nat} {H : Heap} {S : Asn} {cells : List SV} {T : TypeId} {xs : List Int} (hw : Abs ⟨w, [(0, boxL b)]⟩ ρ nx H S w') (hS : ∀ R w', S.holds R w' → (restA w b).holds R w') (h0 : (0, Ent.box cells T) ∈ H) (he : (j, Ent.rows (ints xs) 1 3) ∈ H) (hj : j ≠ 0) (hm : m = xs.length) (hf : ∀ x ∈ xs, i64 x) (hl : xs.length ≤ 1000000) :
    ∃ u : IntsV, (SV.os j m).rf ρ = u.val ∧ u.xs = xs ∧ u.sane ∧ (intsA u).holds (fun y => w.heap.size ≤ y ∧ y < w'.heap.size) w' := by
  subst hm
  have hn := box_rows hw hS h0 he hj
  rw [ints_length] at hn
  exact newInts hn hf hl
/-- what a made node is -/
structure Made (n : NodeV) : Prop where
  shape : n.shape.sane
  data : n.data.sane
  bias : n.bias.sane
  shapeFew : n.shape.xs.length ≤ 4
  dataFew : n.data.xs.length ≤ 1000
  biasFew : n.bias.xs.length ≤ 200
  kindFits : i64 n.kind
  aFits : i64 n.a
  bFits : i64 n.b
  loFits : i64 n.lo
  hiFits : i64 n.hi
  sizeFits : i64 n.size
theorem nilI_sane : nilI.sane := ⟨by simp [nilI], Nat.le_refl _, by simp [nilI]⟩
/-- a shape that a made graph has -/
structure ShOk (s : List Int) : Prop where
  pos : 0 < entries s
  few : entries s ≤ 18
  three : s.length = 3 → s.getD 0 0 ≤ 2 ∧ s.getD 1 0 * s.getD 2 0 ≤ 9
structure IsInput (n : NodeV) : Prop where
  made : Made n
  kind : n.kind = 1
  a : n.a = 0
  b : n.b = 0
  shape : ShOk n.shape.xs
  lo : -4 ≤ n.lo ∧ n.lo ≤ 4
  hi : n.lo ≤ n.hi ∧ n.hi ≤ 9
  size : n.size = 0
  data : n.data = nilI
  bias : n.bias = nilI
abbrev InPost (w : World) (b : Nat) (t : BytesV) : Ending → World → Prop := TPost w b t NodeV.valA (fun n => nodeD n false) IsInput
theorem z0 : i64 0 := ⟨by decide, by decide⟩
theorem z1 : i64 1 := ⟨by decide, by decide⟩
theorem fits_of {xs : List Int} (h : (xs.all fun x => decide (0 ≤ x ∧ x ≤ 1000)) = true) : ∀ x ∈ xs, i64 x := fun x hx => by
  have := List.all_eq_true.1 h x hx
  simp only [decide_eq_true_eq] at this
  exact ⟨by omega, by omega⟩
theorem ends_input {w : World} {b : Nat} {t : BytesV} {H : Heap} {S : Asn} {nx j m k : Nat} {xs : List Int} {lo hi : Int} (h0 : (0, Ent.box (cs (tcells t k)) 30) ∈ H) (he : (j, Ent.rows (ints xs) 1 3) ∈ H) (hj : j ≠ 0) (hm : m = xs.length) (hx : ∀ x ∈ xs, i64 x) (hl : xs.length ≤ 3) (hen : ShOk xs) (hk : k ≤ t.bs.length)
    (hlo : -4 ≤ lo ∧ lo ≤ 4) (hhi : lo ≤ hi ∧ hi ≤ 9) (hS : ∀ R w', S.holds R w' → (restA w b).holds R w') :
    finK ⟨w, [(0, boxL b)]⟩ (.agg [.c (.int .i64 1), .c (.int .i64 0), .c (.int .i64 0), .os j m, .c (.int .i64 lo), .c (.int .i64 hi), .c (.int .i64 0), .c (.slice none 0 0), .c (.slice none 0 0)]) H S nx (InPost w b t) := by
  refine fin_of fun ρ w' hw => ?_
  obtain ⟨u, e, h1, h2, h3⟩ := own_new hw hS h0 he hj hm hx (by omega)
  refine ⟨(⟨1, 0, 0, u, lo, hi, 0, nilI, nilI⟩, k), ⟨⟨⟨h2, nilI_sane, nilI_sane, by rw [h1]; omega, by simp [nilI], by simp [nilI], z1, z0, z0, ⟨by simp only; omega, by simp only; omega⟩, ⟨by simp only; omega, by simp only; omega⟩, z0⟩, rfl, rfl, rfl, by rw [h1]; exact hen, hlo, hhi, rfl, rfl, rfl⟩, hk⟩, ?_, (box_end hw hS h0).1, (box_end hw hS h0).2, fun _ => h3, nilI_holds _ _, nilI_holds _ _⟩
  simp only [SV.rf, SV.rfs] at e ⊢
  rw [e]
  rfl
theorem ent_1 : ShOk [1] := ⟨by unfold entries; decide, by unfold entries; decide, by decide⟩
theorem ent_2 : ShOk [2] := ⟨by unfold entries; decide, by unfold entries; decide, by decide⟩
theorem ent_3 : ShOk [3] := ⟨by unfold entries; decide, by unfold entries; decide, by decide⟩
theorem ent_22 : ShOk [2, 2] := ⟨by unfold entries; decide, by unfold entries; decide, by decide⟩
theorem ent_122 : ShOk [1, 2, 2] := ⟨by unfold entries; decide, by unfold entries; decide, by decide⟩
theorem ent_221 : ShOk [2, 2, 1] := ⟨by unfold entries; decide, by unfold entries; decide, by decide⟩
theorem ent_133 : ShOk [1, 3, 3] := ⟨by unfold entries; decide, by unfold entries; decide, by decide⟩
theorem ent_142 : ShOk [1, 4, 2] := ⟨by unfold entries; decide, by unfold entries; decide, by decide⟩
set_option maxRecDepth 20000 in
set_option maxHeartbeats 4000000 in
theorem input_any (w : World) (b : Nat) (t : BytesV) (k : Nat) (h : TapeOk w b t k) :
    Calls Try.prog 40 #[.pointer (some ⟨b, 0, none⟩)] w (InPost w b t) := by
  obtain ⟨hs, hby, hd, hk, hb⟩ := h
  refine calls_of tab tabOk Try.func40 rfl rfl rfl [(0, boxL b)] (fun _ => boxL b) [.lp 0 0 0 0] _ (restA w b) 1 (by simp [SV.rfs, SV.rf, boxL, add_none]) rfl (by show 1 ≤ _; decide) (abs_box hb) ?_
  (repeat' ((conv => whnf) <;> first | (show Wp _ _ _ _ _ _ _; refine Wp.go tabOk rfl ?_) | (show @cmpK _ _ _; (first | refine cmpY ?_ | refine cmpN ?_ | (refine cmp_both ?_ ?_ <;> intro _))) | (show wrapK _ _ _; refine wrapA ?_) | (show leK _ _ _; refine leA ?_) | (show roomK _ _ _; refine roomA ?_) | (show ltK _ _ _; refine ltA ?_) | (show _ ∧ _; refine ⟨?_, ?_⟩) | (show keepK _ _ _ _ _; refine keepA ?_) | refine own_keep ?_ | refine ap_old ?_))
  refine call_num (f := 41) [.int .i64 8] t k _ (by first | exact List.mem_cons_self | exact List.mem_cons_of_mem _ List.mem_cons_self | (repeat (first | exact List.mem_cons_self | apply List.mem_cons_of_mem))) Try.call41 hs hby hk (fun R w' h => rest_holds hd h) (fun w' b' ht => next_any w' b' t k ht 8 ⟨by decide, by decide⟩) (fun r k1 hr hk1 => ?_)
  have hr8 : r = 0 ∨ r = 1 ∨ r = 2 ∨ r = 3 ∨ r = 4 ∨ r = 5 ∨ r = 6 ∨ r = 7 := by have := hr.1; have := hr.2.1 (by omega); omega
  rcases hr8 with rfl | rfl | rfl | rfl | rfl | rfl | rfl | rfl
  all_goals
    (repeat' ((conv => whnf) <;> first | (show Wp _ _ _ _ _ _ _; refine Wp.go tabOk rfl ?_) | (show @cmpK _ _ _; (first | refine cmpY ?_ | refine cmpN ?_ | (refine cmp_both ?_ ?_ <;> intro _))) | (show wrapK _ _ _; refine wrapA ?_) | (show leK _ _ _; refine leA ?_) | (show roomK _ _ _; refine roomA ?_) | (show ltK _ _ _; refine ltA ?_) | (show _ ∧ _; refine ⟨?_, ?_⟩) | (show keepK _ _ _ _ _; refine keepA ?_) | refine own_keep ?_ | refine ap_old ?_))
    refine call_num (f := 70) [] t k1 _ (by first | exact List.mem_cons_self | exact List.mem_cons_of_mem _ List.mem_cons_self | (repeat (first | exact List.mem_cons_self | apply List.mem_cons_of_mem))) Try.call70 hs hby hk1 (fun R w' h => rest_holds hd h) (fun w' b' ht => small_any w' b' t k1 ht) (fun lo k2 hlo hk2 => ?_)
    (repeat' ((conv => whnf) <;> first | (show Wp _ _ _ _ _ _ _; refine Wp.go tabOk rfl ?_) | (show @cmpK _ _ _; (first | refine cmpY ?_ | refine cmpN ?_ | (refine cmp_both ?_ ?_ <;> intro _))) | (show wrapK _ _ _; refine wrapA ?_) | (show leK _ _ _; refine leA ?_) | (show roomK _ _ _; refine roomA ?_) | (show ltK _ _ _; refine ltA ?_) | (show _ ∧ _; refine ⟨?_, ?_⟩) | (show keepK _ _ _ _ _; refine keepA ?_) | refine own_keep ?_ | refine ap_old ?_))
    refine call_num (f := 41) [.int .i64 6] t k2 _ (by first | exact List.mem_cons_self | exact List.mem_cons_of_mem _ List.mem_cons_self | (repeat (first | exact List.mem_cons_self | apply List.mem_cons_of_mem))) Try.call41 hs hby hk2 (fun R w' h => rest_holds hd h) (fun w' b' ht => next_any w' b' t k2 ht 6 ⟨by decide, by decide⟩) (fun r k3 hr hk3 => ?_)
    have hr1 := hr.1
    have hr2 := hr.2.1 (by omega)
    (repeat' ((conv => whnf) <;> first | (show Wp _ _ _ _ _ _ _; refine Wp.go tabOk rfl ?_) | (show @cmpK _ _ _; (first | refine cmpY ?_ | refine cmpN ?_ | (refine cmp_both ?_ ?_ <;> intro _))) | (show wrapK _ _ _; refine wrapA ?_) | (show leK _ _ _; refine leA ?_) | (show roomK _ _ _; refine roomA ?_) | (show ltK _ _ _; refine ltA ?_) | (show _ ∧ _; refine ⟨?_, ?_⟩) | (show keepK _ _ _ _ _; refine keepA ?_) | refine own_keep ?_ | refine ap_old ?_))
    conv => whnf
  · exact ends_input (j := 2) (xs := [1]) (by first | exact List.mem_cons_self | exact List.mem_cons_of_mem _ List.mem_cons_self | (repeat (first | exact List.mem_cons_self | apply List.mem_cons_of_mem))) (by first | exact List.mem_cons_self | exact List.mem_cons_of_mem _ List.mem_cons_self | (repeat (first | exact List.mem_cons_self | apply List.mem_cons_of_mem))) (by decide) rfl (fits_of rfl) (by decide) ent_1 hk3 hlo ⟨by omega, by omega⟩ (fun _ _ h => h)
  · exact ends_input (j := 3) (xs := [2]) (by first | exact List.mem_cons_self | exact List.mem_cons_of_mem _ List.mem_cons_self | (repeat (first | exact List.mem_cons_self | apply List.mem_cons_of_mem))) (by first | exact List.mem_cons_self | exact List.mem_cons_of_mem _ List.mem_cons_self | (repeat (first | exact List.mem_cons_self | apply List.mem_cons_of_mem))) (by decide) rfl (fits_of rfl) (by decide) ent_2 hk3 hlo ⟨by omega, by omega⟩ (fun _ _ h => h)
  · exact ends_input (j := 4) (xs := [3]) (by first | exact List.mem_cons_self | exact List.mem_cons_of_mem _ List.mem_cons_self | (repeat (first | exact List.mem_cons_self | apply List.mem_cons_of_mem))) (by first | exact List.mem_cons_self | exact List.mem_cons_of_mem _ List.mem_cons_self | (repeat (first | exact List.mem_cons_self | apply List.mem_cons_of_mem))) (by decide) rfl (fits_of rfl) (by decide) ent_3 hk3 hlo ⟨by omega, by omega⟩ (fun _ _ h => h)
  · exact ends_input (j := 5) (xs := [2, 2]) (by first | exact List.mem_cons_self | exact List.mem_cons_of_mem _ List.mem_cons_self | (repeat (first | exact List.mem_cons_self | apply List.mem_cons_of_mem))) (by first | exact List.mem_cons_self | exact List.mem_cons_of_mem _ List.mem_cons_self | (repeat (first | exact List.mem_cons_self | apply List.mem_cons_of_mem))) (by decide) rfl (fits_of rfl) (by decide) ent_22 hk3 hlo ⟨by omega, by omega⟩ (fun _ _ h => h)
  · exact ends_input (j := 6) (xs := [1, 2, 2]) (by first | exact List.mem_cons_self | exact List.mem_cons_of_mem _ List.mem_cons_self | (repeat (first | exact List.mem_cons_self | apply List.mem_cons_of_mem))) (by first | exact List.mem_cons_self | exact List.mem_cons_of_mem _ List.mem_cons_self | (repeat (first | exact List.mem_cons_self | apply List.mem_cons_of_mem))) (by decide) rfl (fits_of rfl) (by decide) ent_122 hk3 hlo ⟨by omega, by omega⟩ (fun _ _ h => h)
  · exact ends_input (j := 7) (xs := [2, 2, 1]) (by first | exact List.mem_cons_self | exact List.mem_cons_of_mem _ List.mem_cons_self | (repeat (first | exact List.mem_cons_self | apply List.mem_cons_of_mem))) (by first | exact List.mem_cons_self | exact List.mem_cons_of_mem _ List.mem_cons_self | (repeat (first | exact List.mem_cons_self | apply List.mem_cons_of_mem))) (by decide) rfl (fits_of rfl) (by decide) ent_221 hk3 hlo ⟨by omega, by omega⟩ (fun _ _ h => h)
  · exact ends_input (j := 8) (xs := [1, 3, 3]) (by first | exact List.mem_cons_self | exact List.mem_cons_of_mem _ List.mem_cons_self | (repeat (first | exact List.mem_cons_self | apply List.mem_cons_of_mem))) (by first | exact List.mem_cons_self | exact List.mem_cons_of_mem _ List.mem_cons_self | (repeat (first | exact List.mem_cons_self | apply List.mem_cons_of_mem))) (by decide) rfl (fits_of rfl) (by decide) ent_133 hk3 hlo ⟨by omega, by omega⟩ (fun _ _ h => h)
  · exact ends_input (j := 9) (xs := [1, 4, 2]) (by first | exact List.mem_cons_self | exact List.mem_cons_of_mem _ List.mem_cons_self | (repeat (first | exact List.mem_cons_self | apply List.mem_cons_of_mem))) (by first | exact List.mem_cons_self | exact List.mem_cons_of_mem _ List.mem_cons_self | (repeat (first | exact List.mem_cons_self | apply List.mem_cons_of_mem))) (by decide) rfl (fits_of rfl) (by decide) ent_142 hk3 hlo ⟨by omega, by omega⟩ (fun _ _ h => h)
end Go.Proofs.Ytdmkdogakbipbaa

/- SL -/
namespace Go.Proofs.Ytdmkdogakbipbaa
open Go.SX Go.RowKit
structure NodeP where
  kind : Int
  a : Int
  b : Int
  shape : List Int
  lo : Int
  hi : Int
  size : Int
  data : List Int
  bias : List Int
def NodeV.pl (n : NodeV) : NodeP := ⟨n.kind, n.a, n.b, n.shape.xs, n.lo, n.hi, n.size, n.data.xs, n.bias.xs⟩
def NodeP.toV (n : NodeP) : NodeV := ⟨n.kind, n.a, n.b, ⟨none, 0, n.shape⟩, n.lo, n.hi, n.size, ⟨none, 0, n.data⟩, ⟨none, 0, n.bias⟩⟩
theorem checkR_pl : ∀ {l m : List NodeV} (sh : List (List Int)), l.map NodeV.pl = m.map NodeV.pl → checkR l sh = checkR m sh
  | [], [], _, _ => rfl
  | [], _ :: _, _, h => by simp at h
  | _ :: _, [], _, h => by simp at h
  | x :: l, y :: m, sh, h => by
    simp only [List.map_cons, List.cons.injEq] at h
    have h1 : formB x sh.length = formB y sh.length := by
      have : ∀ z : NodeV, formB z sh.length = formB z.pl.toV sh.length := fun z => by unfold formB lacksB; rfl
      rw [this x, this y, h.1]
    have h2 : shapeO x sh = shapeO y sh := by
      have : ∀ z : NodeV, shapeO z sh = shapeO z.pl.toV sh := fun z => rfl
      rw [this x, this y, h.1]
    have h3 : nearB x = nearB y := by
      have : ∀ z : NodeV, nearB z = nearB z.pl.toV := fun z => by unfold nearB; rfl
      rw [this x, this y, h.1]
    simp only [checkR]
    rw [h1, h2, h3]
    split
    · rfl
    · cases shapeO y sh with
      | none => rfl
      | some s =>
        simp only
        split
        · rfl
        · exact checkR_pl _ h.2
theorem check_pl {g h : GraphV} (hl : g.l.map NodeV.pl = h.l.map NodeV.pl) (ho : g.out = h.out) : check g = check h := by
  unfold check
  have e : g.l.length = h.l.length := by simpa using congrArg List.length hl
  rw [e, ho, checkR_pl [] hl]
structure GraphV.fit (w : World) (g : GraphV) : Prop where
  rows : RowsI w g.base 9 (nodeRows g.l)
  each : ∀ n ∈ g.l, n.ok w
  few : g.l.length ≤ 1000000
theorem GraphV.fit.later {w w' : World} {R : Nat → Prop} {g : GraphV} (h : g.fit w) (hb : (baseA w).holds R w') : g.fit w' := ⟨rows_base hb h.rows, fun n hn => (h.each n hn).later hb, h.few⟩
end Go.Proofs.Ytdmkdogakbipbaa

/- GR -/
namespace Go.Proofs.Ytdmkdogakbipbaa
open Go.SX Go.RowKit
theorem i64_0 : i64 0 := ⟨by decide, by decide⟩
theorem i64_1 : i64 1 := ⟨by decide, by decide⟩
theorem nil_ok (w : World) : (⟨none, 0, []⟩ : IntsV).ok w := ⟨.inl rfl, by simp, Nat.le_refl _, by simp⟩
end Go.Proofs.Ytdmkdogakbipbaa

/- GS -/
namespace Go.Proofs.Ytdmkdogakbipbaa
open Go.SX Go.ChangeShapes Go.WideShapes Go.ChangeAt Go.RowKit
theorem own : ownKnob Try.prog.godebug = none := by kernel_rfl
theorem laidOut : laidOutB Try.prog = true := by kernel_rfl
theorem opens_of {H : Type} {enc : TypeId × Value → H} {P : Program} {w : World} {t : TypeId} {Q : List Value → Prop} {base : Nat} {sp : Nat → Bool} {held : Bool} {v : Value} {d : DataW H} {ps : List MemPlace} (h : Opens P w t Q) (ht : DataW.Trod enc P w base sp held t v d ps) : Q v.cells.toList := by
  obtain ⟨n, hn⟩ := ht
  exact h.out enc base sp held n _ _ hn
end Go.Proofs.Ytdmkdogakbipbaa

/- IA -/
namespace Go.Proofs.Ytdmkdogakbipbaa
abbrev dtIA0 : Go.SX.DT := (.take 0 (.take 1 (.take 2 (.take 3 (.take 4 (.alt 5 (.take 6 (.one 7 (.one 8 (.done)))) (.one 7 (.one 5 (.take 6 (.one 8 (.done)))))))))))
abbrev dtIA1 : Go.SX.DT := (.take 0 (.take 1 (.take 2 (.take 3 (.take 4 (.take 5 (.take 7 (.alt 6 (.one 8 (.one 9 (.one 10 (.done)))) (.one 8 (.one 6 (.one 9 (.one 10 (.done)))))))))))))
open Go.SX Go.RowKit
def placeV (n : NodeV) (inV fnV : Value) (c : Int) : Value := .agg #[.int .i64 n.kind, .int .i64 n.a, .int .i64 n.b, n.shape.val, .int .i64 n.lo, .int .i64 n.hi, .int .i64 n.size, n.data.val, n.bias.val, inV, fnV, .int .i64 c]
set_option maxRecDepth 20000 in
theorem at_plain (w : World) (n : NodeV) (sv : ShapesV) (hs : sv.ok w) (i : Nat) (s : IntsV) (hi : sv.l[i]? = some s) (hk : n.kind ≠ 3 ∧ n.kind ≠ 4 ∧ n.kind ≠ 5) : Calls Try.prog 44 #[n.valA, sv.val, .int .i64 i] w fun e w' => e = .returned (placeV n (.slice none 0 0) .nilFunc (entries s.xs)) ∧ Ext w w' := by
  obtain ⟨hlt, hsi⟩ := List.getElem?_eq_some_iff.1 hi
  have hfew := hs.few
  obtain ⟨a, ha⟩ : ∃ a, sv.base = some a := base_some (j := i) hs.rows (by rw [shRows_length]; exact hlt)
  have hrow := shRows_get hlt
  rw [hsi] at hrow
  have hss := hs.each s (hsi ▸ List.getElem_mem hlt)
  refine calls_of tab tabOk Try.func44 rfl rfl rfl [] (fun _ => ⟨none, 0⟩) [.agg [.c (.int .i64 n.kind), .c (.int .i64 n.a), .c (.int .i64 n.b), .c n.shape.val, .c (.int .i64 n.lo), .c (.int .i64 n.hi), .c (.int .i64 n.size), .c n.data.val, .c n.bias.val], .c sv.val, .c (.int .i64 i)] [] (baseA w) 0 rfl rfl (by show 3 ≤ _; decide) (abs_base w) ?_
  (repeat' ((conv => whnf) <;> first | (show idxK _ _ _ _ _; refine idx_of a i ha rfl hlt ?_) | (show roK _ _ _; (refine ro_row0 (fun R w' h => by rw [← ha]; exact rows_base h hs.rows) _ _ hrow rfl ?_)) | (show callK _ 59 _ _ _ _ _; refine call_pure (f := 59) Try.call59 _ (fun ρ w' hw => entries_ints w' s (holds_of_abs hw fun R h => hss.later h)) ?_) | (show drawK _ 1 _ _ _ _ _ _; refine draw_tree tabOk mixed [8] _ dtIA0 (by kernel_rfl) (by kernel_rfl) (by kernel_rfl) (List.Sublist.refl _) ?_) | (show drawK _ 4 _ _ _ _ _ _; refine draw_tree tabOk mixed [8, 10] _ dtIA1 (by kernel_rfl) (by kernel_rfl) (by kernel_rfl) (List.Sublist.refl _) ?_) | (show Wp _ _ _ _ _ _ _; refine Wp.go tabOk rfl ?_) | (show @cmpK _ _ _; (first | refine cmpY ?_ | refine cmpN ?_ | (refine cmp_both ?_ ?_ <;> intro _))) | (show wrapK _ _ _; refine wrapA ?_) | (show leK _ _ _; refine leA ?_) | (show roomK _ _ _; refine roomA ?_) | (show ltK _ _ _; refine ltA ?_) | (show _ ∧ _; refine ⟨?_, ?_⟩) | (show keepK _ _ _ _ _; refine keepA ?_) | refine own_keep ?_ | refine ap_old ?_))
  all_goals (conv => whnf)
  all_goals exact ends_of (fun _ _ h => h) (fun _ => rfl) rfl
theorem mul_bd {x y A B : Int} (hx : -A ≤ x ∧ x ≤ A) (hy : -B ≤ y ∧ y ≤ B) : -(A * B) ≤ x * y ∧ x * y ≤ A * B := by
  have hA : (0 : Int) ≤ A := by omega
  have hB : (0 : Int) ≤ B := by omega
  have h1 : x.natAbs ≤ A.natAbs := by omega
  have h2 : y.natAbs ≤ B.natAbs := by omega
  have h3 := Nat.mul_le_mul h1 h2
  rw [← Int.natAbs_mul, ← Int.natAbs_mul] at h3
  have h4 : 0 ≤ A * B := Int.mul_nonneg hA hB
  omega
theorem div_i64 {x y : Int} {K : Int → Prop} (hy : y ≠ 0) (hx : -4611686018427387904 ≤ x ∧ x ≤ 4611686018427387904) (h : K (x.tdiv y)) : divK .i64 x y K := by
  rw [divK_def]
  refine ⟨hy, ?_⟩
  have h1 : (x.tdiv y).natAbs ≤ x.natAbs := by rw [Int.natAbs_tdiv]; exact Nat.div_le_self _ _
  have h2 : wrapK .i64 (x.tdiv y) K := wrap_i64 (by omega) (by omega) h
  rw [wrapK_def] at h2
  exact h2
def bd20 (x : Int) : Prop := -1048576 ≤ x ∧ x ≤ 1048576
def powI (d : List Int) (v : Int) : Int := d.getD 2 0 * v * v + d.getD 1 0 * v + d.getD 0 0
theorem pow_bd {a b c v : Int} (ha : bd20 a) (hb : bd20 b) (hc : bd20 c) (hv : bd20 v) : (-1099511627776 ≤ a * v ∧ a * v ≤ 1099511627776) ∧ (-1152921504606846976 ≤ a * v * v ∧ a * v * v ≤ 1152921504606846976) ∧ (-1099511627776 ≤ b * v ∧ b * v ≤ 1099511627776) := by
  have h1 := mul_bd (A := 1048576) (B := 1048576) ha hv
  have h2 : -1099511627776 ≤ a * v ∧ a * v ≤ 1099511627776 := h1
  exact ⟨h2, mul_bd (A := 1099511627776) (B := 1048576) h2 hv, mul_bd (A := 1048576) (B := 1048576) hb hv⟩
theorem getD_bd {l : List Int} (h : ∀ x ∈ l, bd20 x) (k : Nat) : bd20 (l.getD k 0) := by
  rcases Nat.lt_or_ge k l.length with hk | hk
  · exact h _ (getD_mem hk)
  · rw [List.getD_eq_getElem?_getD, List.getElem?_eq_none hk]; exact ⟨by decide, by decide⟩
set_option maxRecDepth 20000 in
theorem power_any (w : World) (n : NodeV) (hd : n.data.ok w) (h3 : n.data.xs.length = 3) (hb : ∀ x ∈ n.data.xs, bd20 x) (inV fnV : Value) (c v : Int) (hv : bd20 v) : Calls Try.prog 78 #[placeV n inV fnV c, .int .i64 v] w fun e w' => e = .returned (.int .i64 (powI n.data.xs v)) ∧ Ext w w' := by
  obtain ⟨ua, hua⟩ := hd.base (by omega)
  have hur : ∀ (R : Nat → Prop) w', (baseA w).holds R w' → RowsI w' (some ua) 1 (ints n.data.xs) := fun R w' h => by rw [← hua]; exact rows_base h hd.rows
  have p0 := getD_bd hb 0
  have p1 := getD_bd hb 1
  have p2 := getD_bd hb 2
  obtain ⟨q1, q2, q3⟩ := pow_bd p2 p1 p0 hv
  unfold bd20 at p0 p1 p2
  unfold powI
  refine calls_of tab tabOk Try.func78 rfl rfl rfl [] (fun _ => ⟨none, 0⟩) [.agg [.c (.int .i64 n.kind), .c (.int .i64 n.a), .c (.int .i64 n.b), .c n.shape.val, .c (.int .i64 n.lo), .c (.int .i64 n.hi), .c (.int .i64 n.size), .c n.data.val, .c n.bias.val, .c inV, .c fnV, .c (.int .i64 c)], .c (.int .i64 v)] [] (baseA w) 0 rfl rfl (by show 2 ≤ _; decide) (abs_base w) ?_
  (repeat' ((conv => whnf) <;> first | (show idxK _ _ _ _ _; refine idx_of _ 0 hua rfl (by omega) ?_) | (show roK _ _ _; refine ro_int hur (j := 0) (by omega) ?_) | (show idxK _ _ _ _ _; refine idx_of _ 1 hua rfl (by omega) ?_) | (show roK _ _ _; refine ro_int hur (j := 1) (by omega) ?_) | (show idxK _ _ _ _ _; refine idx_of _ 2 hua rfl (by omega) ?_) | (show roK _ _ _; refine ro_int hur (j := 2) (by omega) ?_) | (show drawK _ _ _ _ _ _ _ _; refine draw_quiet tabOk mixed (by kernel_rfl) ?_) | (show Wp _ _ _ _ _ _ _; refine Wp.go tabOk rfl ?_) | (show @cmpK _ _ _; (first | refine cmpY ?_ | refine cmpN ?_ | (refine cmp_both ?_ ?_ <;> intro _))) | (show wrapK _ _ _; refine wrapA ?_) | (show leK _ _ _; refine leA ?_) | (show roomK _ _ _; refine roomA ?_) | (show ltK _ _ _; refine ltA ?_) | (show _ ∧ _; refine ⟨?_, ?_⟩) | (show keepK _ _ _ _ _; refine keepA ?_) | refine own_keep ?_ | refine ap_old ?_))
  conv => whnf
  exact ends_of (fun _ _ h => h) (fun _ => rfl) rfl
end Go.Proofs.Ytdmkdogakbipbaa

/- IB -/
namespace Go.Proofs.Ytdmkdogakbipbaa
abbrev dtIB0 : Go.SX.DT := (.take 0 (.take 1 (.take 2 (.take 3 (.take 4 (.take 5 (.take 6 (.take 7 (.take 8 (.take 9 (.take 10 (.take 11 (.take 12 (.take 13 (.take 14 (.take 15 (.one 16 (.take 17 (.done)))))))))))))))))))
abbrev dtIB1 : Go.SX.DT := (.take 0 (.take 1 (.take 2 (.take 4 (.take 5 (.take 6 (.one 3 (.one 7 (.one 8 (.take 9 (.done)))))))))))
open Go.SX Go.RowKit
theorem ints_snocI (xs : List Int) (x : Int) {i n : Nat} {T : TypeId} {H : Heap} (hn : n = xs.length) : (i, Ent.rows (ints (xs ++ [x])) 1 T) ∈ (i, Ent.rows (List.take n (ints xs) ++ [[.int .i64 x]]) 1 T) :: H := by
  subst hn; exact ints_snoc xs x
abbrev Sp := Int × Int
def spanV (s : Sp) : Value := .agg #[.int .i64 s.1, .int .i64 s.2]
def ptsL : Nat → Int → List Int
  | 0, _ => []
  | n + 1, v => v :: ptsL n (v + 1)
def turnI (d : List Int) : Int := (0 - d.getD 1 0).tdiv (2 * d.getD 2 0)
def loI (d : List Int) (a : Sp) : Int := max a.1 (turnI d - 1)
def hiI (d : List Int) (a : Sp) : Int := min a.2 (turnI d + 1)
/-- numbers among which a span's ends are, of a node that is not linear over weights -/
def endsL (n : NodeV) (a b : Sp) : List Int :=
  if n.kind = 1 then [n.lo, n.hi]
  else if n.kind = 2 then n.data.xs
  else if n.kind = 6 then [a.1 + b.1, a.2 + b.2]
  else if n.kind = 7 then [n.data.xs.getD 0 0 * a.1, n.data.xs.getD 0 0 * a.2]
  else if n.kind = 8 then (if n.data.xs.getD 2 0 = 0 then [powI n.data.xs a.1, powI n.data.xs a.2] else [powI n.data.xs a.1, powI n.data.xs a.2] ++ (ptsL (hiI n.data.xs a - loI n.data.xs a + 1).toNat (loI n.data.xs a)).map (powI n.data.xs))
  else [a.1, a.2]
def oldA (x : IntsV × Bool) : Asn where
  holds R w := x.2 = false → (intsA x.1).holds R w
  stable := fun hR hw h e => (intsA x.1).stable hR hw (h e)
def EndsPost (w : World) (n : NodeV) (l : List Int) (e : Ending) (w' : World) : Prop :=
  ∃ x : IntsV × Bool, (x.1.xs = l ∧ x.1.sane ∧ (x.2 = true → x.1 = n.data)) ∧ e = .returned x.1.val ∧ Ext w w' ∧ (oldA x).holds (fun b => w.heap.size ≤ b ∧ b < w'.heap.size) w'
theorem eends_old {B : Base} {H : Heap} {S : Asn} {nx : Nat} {w : World} {n : NodeV} {l : List Int} (hb : ∀ R w', S.holds R w' → (baseA B.w0).holds R w') (hw0 : B.w0 = w) (hs : n.data.sane) (hl : n.data.xs = l) : finK B (.c n.data.val) H S nx (EndsPost w n l) := by
  subst hw0
  exact fin_of fun ρ w' hw => ⟨(n.data, true), ⟨hl, hs, fun _ => rfl⟩, rfl, ext_of_abs hw hb, fun h => by cases h⟩
theorem eends_new {B : Base} {i m : Nat} {H : Heap} {S : Asn} {nx : Nat} {w : World} {n : NodeV} {l : List Int} (hb : ∀ R w', S.holds R w' → (baseA B.w0).holds R w') (hw0 : B.w0 = w) (he : (i, Ent.rows (ints l) 1 3) ∈ H) (hm : m = l.length) (hf : ∀ x ∈ l, i64 x) (hl : l.length ≤ 1000000) : finK B (.os i m) H S nx (EndsPost w n l) := by
  subst hw0 hm
  refine fin_of fun ρ w' hw => ?_
  have hn := new_of_abs hw hb he
  rw [ints_length] at hn
  obtain ⟨u, e1, e2, e3, e4⟩ := newInts hn hf hl
  exact ⟨(u, false), ⟨e2, e3, fun h => by cases h⟩, by rw [e1], ext_of_abs hw hb, fun _ => e4⟩
/-- what is asked of a node for its ends -/
structure EndsOk (n : NodeV) (a b : Sp) : Prop where
  kind : n.kind = 1 ∨ n.kind = 2 ∨ n.kind = 6 ∨ n.kind = 7 ∨ n.kind = 8 ∨ n.kind = 9
  data : ∀ x ∈ n.data.xs, bd20 x
  scale : n.kind = 7 → n.data.xs.length = 1
  power : n.kind = 8 → n.data.xs.length = 3
  lo : bd20 n.lo
  hi : bd20 n.hi
  a1 : bd20 a.1
  a2 : bd20 a.2
  b1 : bd20 b.1
  b2 : bd20 b.2
theorem two_i64 {x y : Int} (hx : -4611686018427387904 ≤ x ∧ x ≤ 4611686018427387904) (hy : -4611686018427387904 ≤ y ∧ y ≤ 4611686018427387904) : ∀ z ∈ [x, y], i64 z := fun z hz => by
  simp only [List.mem_cons, List.not_mem_nil, or_false] at hz
  unfold i64
  rcases hz with rfl | rfl <;> omega
theorem powI_bd {d : List Int} {v : Int} (hd : ∀ x ∈ d, bd20 x) (hv : bd20 v) : -4611686018427387904 ≤ powI d v ∧ powI d v ≤ 4611686018427387904 := by
  obtain ⟨q1, q2, q3⟩ := pow_bd (getD_bd hd 2) (getD_bd hd 1) (getD_bd hd 0) hv
  have := getD_bd hd 0
  unfold bd20 at this
  unfold powI
  omega
set_option maxRecDepth 20000 in
theorem ends_plain (w : World) (n : NodeV) (hd : n.data.ok w) (inV fnV : Value) (c : Int) (a b : Sp) (h : EndsOk n a b) : Calls Try.prog 58 #[placeV n inV fnV c, spanV a, spanV b] w (EndsPost w n (endsL n a b)) := by
  obtain ⟨hk, hb, hsc, hpo, hlo, hhi, ha1, ha2, hb1, hb2⟩ := h
  unfold bd20 at ha1 ha2 hb1 hb2 hlo hhi
  rcases hk with hk | hk | hk | hk | hk | hk
  · have hL : endsL n a b = [n.lo, n.hi] := if_pos hk
    rw [hL]
    refine calls_of tab tabOk Try.func58 rfl rfl rfl [] (fun _ => ⟨none, 0⟩) [.agg [.c (.int .i64 n.kind), .c (.int .i64 n.a), .c (.int .i64 n.b), .c n.shape.val, .c (.int .i64 n.lo), .c (.int .i64 n.hi), .c (.int .i64 n.size), .c n.data.val, .c n.bias.val, .c inV, .c fnV, .c (.int .i64 c)], .agg [.c (.int .i64 a.1), .c (.int .i64 a.2)], .agg [.c (.int .i64 b.1), .c (.int .i64 b.2)]] [] (baseA w) 0 rfl rfl (by show 3 ≤ _; decide) (abs_base w) ?_
    (repeat' ((conv => whnf) <;> first | (show drawK _ 9 _ _ _ _ _ _; refine draw_tree tabOk mixed [] _ dtIB0 (by kernel_rfl) (by kernel_rfl) (by kernel_rfl) (List.Sublist.refl _) ?_) | (show drawK _ 11 _ _ _ _ _ _; refine draw_tree tabOk mixed [] _ dtIB1 (by kernel_rfl) (by kernel_rfl) (by kernel_rfl) (List.Sublist.refl _) ?_) | (show drawK _ _ _ _ _ _ _ _; refine draw_quiet tabOk mixed (by kernel_rfl) ?_) | (show Wp _ _ _ _ _ _ _; refine Wp.go tabOk rfl ?_) | (show @cmpK _ _ _; (first | refine cmpY ?_ | refine cmpN ?_ | (refine cmp_both ?_ ?_ <;> intro _))) | (show wrapK _ _ _; refine wrapA ?_) | (show leK _ _ _; refine leA ?_) | (show roomK _ _ _; refine roomA ?_) | (show ltK _ _ _; refine ltA ?_) | (show _ ∧ _; refine ⟨?_, ?_⟩) | (show keepK _ _ _ _ _; refine keepA ?_) | refine own_keep ?_ | refine ap_old ?_))
    conv => whnf
    exact eends_new (fun _ _ h => h) rfl (by repeat (first | exact List.mem_cons_self | apply List.mem_cons_of_mem)) rfl (two_i64 (by omega) (by omega)) (by simp)
  · have hL : endsL n a b = n.data.xs := by unfold endsL; rw [if_neg (by omega), if_pos hk]
    rw [hL]
    refine calls_of tab tabOk Try.func58 rfl rfl rfl [] (fun _ => ⟨none, 0⟩) [.agg [.c (.int .i64 n.kind), .c (.int .i64 n.a), .c (.int .i64 n.b), .c n.shape.val, .c (.int .i64 n.lo), .c (.int .i64 n.hi), .c (.int .i64 n.size), .c n.data.val, .c n.bias.val, .c inV, .c fnV, .c (.int .i64 c)], .agg [.c (.int .i64 a.1), .c (.int .i64 a.2)], .agg [.c (.int .i64 b.1), .c (.int .i64 b.2)]] [] (baseA w) 0 rfl rfl (by show 3 ≤ _; decide) (abs_base w) ?_
    (repeat' ((conv => whnf) <;> first | (show drawK _ 9 _ _ _ _ _ _; refine draw_tree tabOk mixed [] _ dtIB0 (by kernel_rfl) (by kernel_rfl) (by kernel_rfl) (List.Sublist.refl _) ?_) | (show drawK _ 11 _ _ _ _ _ _; refine draw_tree tabOk mixed [] _ dtIB1 (by kernel_rfl) (by kernel_rfl) (by kernel_rfl) (List.Sublist.refl _) ?_) | (show drawK _ _ _ _ _ _ _ _; refine draw_quiet tabOk mixed (by kernel_rfl) ?_) | (show Wp _ _ _ _ _ _ _; refine Wp.go tabOk rfl ?_) | (show @cmpK _ _ _; (first | refine cmpY ?_ | refine cmpN ?_ | (refine cmp_both ?_ ?_ <;> intro _))) | (show wrapK _ _ _; refine wrapA ?_) | (show leK _ _ _; refine leA ?_) | (show roomK _ _ _; refine roomA ?_) | (show ltK _ _ _; refine ltA ?_) | (show _ ∧ _; refine ⟨?_, ?_⟩) | (show keepK _ _ _ _ _; refine keepA ?_) | refine own_keep ?_ | refine ap_old ?_))
    conv => whnf
    exact eends_old (fun _ _ h => h) rfl hd.sane rfl
  · have hL : endsL n a b = [a.1 + b.1, a.2 + b.2] := by unfold endsL; rw [if_neg (by omega), if_neg (by omega), if_pos hk]
    rw [hL]
    refine calls_of tab tabOk Try.func58 rfl rfl rfl [] (fun _ => ⟨none, 0⟩) [.agg [.c (.int .i64 n.kind), .c (.int .i64 n.a), .c (.int .i64 n.b), .c n.shape.val, .c (.int .i64 n.lo), .c (.int .i64 n.hi), .c (.int .i64 n.size), .c n.data.val, .c n.bias.val, .c inV, .c fnV, .c (.int .i64 c)], .agg [.c (.int .i64 a.1), .c (.int .i64 a.2)], .agg [.c (.int .i64 b.1), .c (.int .i64 b.2)]] [] (baseA w) 0 rfl rfl (by show 3 ≤ _; decide) (abs_base w) ?_
    (repeat' ((conv => whnf) <;> first | (show drawK _ 9 _ _ _ _ _ _; refine draw_tree tabOk mixed [] _ dtIB0 (by kernel_rfl) (by kernel_rfl) (by kernel_rfl) (List.Sublist.refl _) ?_) | (show drawK _ 11 _ _ _ _ _ _; refine draw_tree tabOk mixed [] _ dtIB1 (by kernel_rfl) (by kernel_rfl) (by kernel_rfl) (List.Sublist.refl _) ?_) | (show drawK _ _ _ _ _ _ _ _; refine draw_quiet tabOk mixed (by kernel_rfl) ?_) | (show Wp _ _ _ _ _ _ _; refine Wp.go tabOk rfl ?_) | (show @cmpK _ _ _; (first | refine cmpY ?_ | refine cmpN ?_ | (refine cmp_both ?_ ?_ <;> intro _))) | (show wrapK _ _ _; refine wrapA ?_) | (show leK _ _ _; refine leA ?_) | (show roomK _ _ _; refine roomA ?_) | (show ltK _ _ _; refine ltA ?_) | (show _ ∧ _; refine ⟨?_, ?_⟩) | (show keepK _ _ _ _ _; refine keepA ?_) | refine own_keep ?_ | refine ap_old ?_))
    conv => whnf
    exact eends_new (fun _ _ h => h) rfl (by repeat (first | exact List.mem_cons_self | apply List.mem_cons_of_mem)) rfl (two_i64 (by omega) (by omega)) (by simp)
  · have hL : endsL n a b = [n.data.xs.getD 0 0 * a.1, n.data.xs.getD 0 0 * a.2] := by unfold endsL; rw [if_neg (by omega), if_neg (by omega), if_neg (by omega), if_pos hk]
    rw [hL]
    have hl1 := hsc hk
    obtain ⟨ua, hua⟩ := hd.base (by omega)
    have hur : ∀ (R : Nat → Prop) w', (baseA w).holds R w' → RowsI w' (some ua) 1 (ints n.data.xs) := fun R w' h => by rw [← hua]; exact rows_base h hd.rows
    have q1 := mul_bd (A := 1048576) (B := 1048576) (getD_bd hb 0) ha1
    have q2 := mul_bd (A := 1048576) (B := 1048576) (getD_bd hb 0) ha2
    refine calls_of tab tabOk Try.func58 rfl rfl rfl [] (fun _ => ⟨none, 0⟩) [.agg [.c (.int .i64 n.kind), .c (.int .i64 n.a), .c (.int .i64 n.b), .c n.shape.val, .c (.int .i64 n.lo), .c (.int .i64 n.hi), .c (.int .i64 n.size), .c n.data.val, .c n.bias.val, .c inV, .c fnV, .c (.int .i64 c)], .agg [.c (.int .i64 a.1), .c (.int .i64 a.2)], .agg [.c (.int .i64 b.1), .c (.int .i64 b.2)]] [] (baseA w) 0 rfl rfl (by show 3 ≤ _; decide) (abs_base w) ?_
    (repeat' ((conv => whnf) <;> first | (show idxK _ _ _ _ _; refine idx_of _ 0 hua rfl (by omega) ?_) | (show roK _ _ _; refine ro_int hur (j := 0) (by omega) ?_) | (show drawK _ 9 _ _ _ _ _ _; refine draw_tree tabOk mixed [] _ dtIB0 (by kernel_rfl) (by kernel_rfl) (by kernel_rfl) (List.Sublist.refl _) ?_) | (show drawK _ 11 _ _ _ _ _ _; refine draw_tree tabOk mixed [] _ dtIB1 (by kernel_rfl) (by kernel_rfl) (by kernel_rfl) (List.Sublist.refl _) ?_) | (show drawK _ _ _ _ _ _ _ _; refine draw_quiet tabOk mixed (by kernel_rfl) ?_) | (show Wp _ _ _ _ _ _ _; refine Wp.go tabOk rfl ?_) | (show @cmpK _ _ _; (first | refine cmpY ?_ | refine cmpN ?_ | (refine cmp_both ?_ ?_ <;> intro _))) | (show wrapK _ _ _; refine wrapA ?_) | (show leK _ _ _; refine leA ?_) | (show roomK _ _ _; refine roomA ?_) | (show ltK _ _ _; refine ltA ?_) | (show _ ∧ _; refine ⟨?_, ?_⟩) | (show keepK _ _ _ _ _; refine keepA ?_) | refine own_keep ?_ | refine ap_old ?_))
    conv => whnf
    exact eends_new (fun _ _ h => h) rfl (by repeat (first | exact List.mem_cons_self | apply List.mem_cons_of_mem)) rfl (two_i64 (by omega) (by omega)) (by simp)
  · have hl3 := hpo hk
    obtain ⟨ua, hua⟩ := hd.base (by omega)
    have hur : ∀ (R : Nat → Prop) w', (baseA w).holds R w' → RowsI w' (some ua) 1 (ints n.data.xs) := fun R w' h => by rw [← hua]; exact rows_base h hd.rows
    have p1 := getD_bd hb 1
    have p2 := getD_bd hb 2
    unfold bd20 at p1 p2
    have i1 := powI_bd hb (v := a.1) (by unfold bd20; omega)
    have i2 := powI_bd hb (v := a.2) (by unfold bd20; omega)
    refine calls_of tab tabOk Try.func58 rfl rfl rfl [] (fun _ => ⟨none, 0⟩) [.agg [.c (.int .i64 n.kind), .c (.int .i64 n.a), .c (.int .i64 n.b), .c n.shape.val, .c (.int .i64 n.lo), .c (.int .i64 n.hi), .c (.int .i64 n.size), .c n.data.val, .c n.bias.val, .c inV, .c fnV, .c (.int .i64 c)], .agg [.c (.int .i64 a.1), .c (.int .i64 a.2)], .agg [.c (.int .i64 b.1), .c (.int .i64 b.2)]] [] (baseA w) 0 rfl rfl (by show 3 ≤ _; decide) (abs_base w) ?_
    by_cases hz : n.data.xs.getD 2 0 = 0
    · have hL : endsL n a b = [powI n.data.xs a.1, powI n.data.xs a.2] := by unfold endsL; rw [if_neg (by omega), if_neg (by omega), if_neg (by omega), if_neg (by omega), if_pos hk, if_pos hz]
      rw [hL]
      (repeat' ((conv => whnf) <;> first | (show idxK _ _ _ _ _; refine idx_of _ 2 hua rfl (by omega) ?_) | (show roK _ _ _; refine ro_int hur (j := 2) (by omega) ?_) | ((show callK _ 78 [_, .c (.int .i64 a.1)] _ _ _ _); refine call_pure (f := 78) Try.call78 (.int .i64 (powI n.data.xs a.1)) (fun ρ w' hw => power_any w' n (holds_of_abs hw fun R h => hd.later h) hl3 hb inV fnV c a.1 (by unfold bd20; omega)) ?_) | ((show callK _ 78 [_, .c (.int .i64 a.2)] _ _ _ _); refine call_pure (f := 78) Try.call78 (.int .i64 (powI n.data.xs a.2)) (fun ρ w' hw => power_any w' n (holds_of_abs hw fun R h => hd.later h) hl3 hb inV fnV c a.2 (by unfold bd20; omega)) ?_) | (show drawK _ 9 _ _ _ _ _ _; refine draw_tree tabOk mixed [] _ dtIB0 (by kernel_rfl) (by kernel_rfl) (by kernel_rfl) (List.Sublist.refl _) ?_) | (show drawK _ 11 _ _ _ _ _ _; refine draw_tree tabOk mixed [] _ dtIB1 (by kernel_rfl) (by kernel_rfl) (by kernel_rfl) (List.Sublist.refl _) ?_) | (show drawK _ _ _ _ _ _ _ _; refine draw_quiet tabOk mixed (by kernel_rfl) ?_) | (show Wp _ _ _ _ _ _ _; refine Wp.go tabOk rfl ?_) | (show @cmpK _ _ _; (first | refine cmpY ?_ | refine cmpN ?_ | (refine cmp_both ?_ ?_ <;> intro _))) | (show wrapK _ _ _; refine wrapA ?_) | (show leK _ _ _; refine leA ?_) | (show roomK _ _ _; refine roomA ?_) | (show ltK _ _ _; refine ltA ?_) | (show _ ∧ _; refine ⟨?_, ?_⟩) | (show keepK _ _ _ _ _; refine keepA ?_) | refine own_keep ?_ | refine ap_old ?_))
      conv => whnf
      exact eends_new (fun _ _ h => h) rfl (by repeat (first | exact List.mem_cons_self | apply List.mem_cons_of_mem)) rfl (two_i64 (by omega) (by omega)) (by simp)
    · have hT : -1048576 ≤ (0 - n.data.xs.getD 1 0).tdiv (2 * n.data.xs.getD 2 0) ∧ (0 - n.data.xs.getD 1 0).tdiv (2 * n.data.xs.getD 2 0) ≤ 1048576 := by
        have h1 : ((0 - n.data.xs.getD 1 0).tdiv (2 * n.data.xs.getD 2 0)).natAbs ≤ (0 - n.data.xs.getD 1 0).natAbs := by rw [Int.natAbs_tdiv]; exact Nat.div_le_self _ _
        omega
      (repeat' ((conv => whnf) <;> first | (show idxK _ _ _ _ _; refine idx_of _ 1 hua rfl (by omega) ?_) | (show roK _ _ _; refine ro_int hur (j := 1) (by omega) ?_) | (show idxK _ _ _ _ _; refine idx_of _ 2 hua rfl (by omega) ?_) | (show roK _ _ _; refine ro_int hur (j := 2) (by omega) ?_) | ((show callK _ 78 [_, .c (.int .i64 a.1)] _ _ _ _); refine call_pure (f := 78) Try.call78 (.int .i64 (powI n.data.xs a.1)) (fun ρ w' hw => power_any w' n (holds_of_abs hw fun R h => hd.later h) hl3 hb inV fnV c a.1 (by unfold bd20; omega)) ?_) | ((show callK _ 78 [_, .c (.int .i64 a.2)] _ _ _ _); refine call_pure (f := 78) Try.call78 (.int .i64 (powI n.data.xs a.2)) (fun ρ w' hw => power_any w' n (holds_of_abs hw fun R h => hd.later h) hl3 hb inV fnV c a.2 (by unfold bd20; omega)) ?_) | (show divK _ _ _ _; refine div_i64 (by omega) (by omega) ?_) | (show drawK _ 9 _ _ _ _ _ _; refine draw_tree tabOk mixed [] _ dtIB0 (by kernel_rfl) (by kernel_rfl) (by kernel_rfl) (List.Sublist.refl _) ?_) | (show drawK _ 11 _ _ _ _ _ _; refine draw_tree tabOk mixed [] _ dtIB1 (by kernel_rfl) (by kernel_rfl) (by kernel_rfl) (List.Sublist.refl _) ?_) | (show drawK _ _ _ _ _ _ _ _; refine draw_quiet tabOk mixed (by kernel_rfl) ?_) | (show Wp _ _ _ _ _ _ _; refine Wp.go tabOk rfl ?_) | (show @cmpK _ _ _; (first | refine cmpY ?_ | refine cmpN ?_ | (refine cmp_both ?_ ?_ <;> intro _))) | (show wrapK _ _ _; refine wrapA ?_) | (show leK _ _ _; refine leA ?_) | (show roomK _ _ _; refine roomA ?_) | (show ltK _ _ _; refine ltA ?_) | (show _ ∧ _; refine ⟨?_, ?_⟩) | (show keepK _ _ _ _ _; refine keepA ?_) | refine own_keep ?_ | refine ap_old ?_))
      all_goals
        have hL : endsL n a b = [powI n.data.xs a.1, powI n.data.xs a.2] ++ (ptsL (hiI n.data.xs a - loI n.data.xs a + 1).toNat (loI n.data.xs a)).map (powI n.data.xs) := by unfold endsL; rw [if_neg (by omega), if_neg (by omega), if_neg (by omega), if_neg (by omega), if_pos hk, if_neg hz]
        rw [hL]
        have hlo' : loI n.data.xs a = max a.1 ((0 - n.data.xs.getD 1 0).tdiv (2 * n.data.xs.getD 2 0) - 1) := rfl
        have hhi' : hiI n.data.xs a = min a.2 ((0 - n.data.xs.getD 1 0).tdiv (2 * n.data.xs.getD 2 0) + 1) := rfl
        generalize hT0 : (0 - n.data.xs.getD 1 0).tdiv (2 * n.data.xs.getD 2 0) = T at *
        generalize hloE : loI n.data.xs a = L0 at *
        generalize hhiE : hiI n.data.xs a = H0 at *
        refine Wp.loop (σ := Int × Nat × List Int) 5 (fun ⟨v, m, _⟩ => [(10, .c (.int .i64 v)), (9, .c (.int .i64 T)), (7, .os 4 m), (3, .lp 0 0 0 0), (4, .lp 1 0 0 0)]) (fun ⟨_, _, acc⟩ => [(4, .rows (ints acc) 1 3), (1, .box [.c (.int .i64 a.1), .c (.int .i64 a.2)] 68), (0, .box [.c (.int .i64 n.kind), .c (.int .i64 n.a), .c (.int .i64 n.b), .c n.shape.val, .c (.int .i64 n.lo), .c (.int .i64 n.hi), .c (.int .i64 n.size), .c n.data.val, .c n.bias.val, .c inV, .c fnV, .c (.int .i64 c)] 75)]) (fun _ => baseA w)
          (fun ⟨v, m, acc⟩ => acc ++ (ptsL (H0 - v + 1).toNat v).map (powI n.data.xs) = [powI n.data.xs a.1, powI n.data.xs a.2] ++ (ptsL (H0 - L0 + 1).toNat L0).map (powI n.data.xs) ∧ m = acc.length ∧ L0 ≤ v ∧ v ≤ 1048580 ∧ acc.length + (H0 - v + 1).toNat ≤ 5 ∧ (∀ x ∈ acc, i64 x)) (fun s => (H0 - s.1 + 1).toNat) (_, 2, [powI n.data.xs a.1, powI n.data.xs a.2]) [(4, some 3)] (by decide) (fun s => ⟨rfl, rfl⟩)
          ⟨by congr 4 <;> omega, rfl, by omega, by omega, by simp only [List.length_cons, List.length_nil]; omega, two_i64 (by omega) (by omega)⟩ ⟨rfl, ⟨rfl, rfl, rfl, rfl, rfl, trivial⟩, ⟨(by repeat (first | exact List.mem_cons_self | apply List.mem_cons_of_mem)), (by repeat (first | exact List.mem_cons_self | apply List.mem_cons_of_mem)), (by repeat (first | exact List.mem_cons_self | apply List.mem_cons_of_mem)), trivial⟩, fun _ _ h => h⟩ ?_
        rintro ⟨v, m, acc⟩ ⟨hacc, hm, hv0, hv1, hcnt, hf⟩
        by_cases hgo : v ≤ H0
        · have iv := powI_bd hb (v := v) (by unfold bd20; omega)
          have hstep : ptsL (H0 - v + 1).toNat v = v :: ptsL (H0 - (v + 1) + 1).toNat (v + 1) := by
            have : (H0 - v + 1).toNat = (H0 - (v + 1) + 1).toNat + 1 := by omega
            rw [this]; rfl
          (repeat' ((conv => whnf) <;> first | ((show callK _ 78 _ _ _ _ _); refine call_pure (f := 78) Try.call78 (.int .i64 (powI n.data.xs v)) (fun ρ w' hw => power_any w' n (holds_of_abs hw fun R h => hd.later h) hl3 hb inV fnV c v (by unfold bd20; omega)) ?_) | (show leK _ _ _; (refine le_of (by rw [ints_length, hm]; exact Nat.le_refl _) ?_)) | (show roomK _ _ _; (refine room_of (by show (m + 1) * 8 ≤ 140737488355328; omega) ?_)) | (show drawK _ 9 _ _ _ _ _ _; refine draw_tree tabOk mixed [] _ dtIB0 (by kernel_rfl) (by kernel_rfl) (by kernel_rfl) (List.Sublist.refl _) ?_) | (show drawK _ 11 _ _ _ _ _ _; refine draw_tree tabOk mixed [] _ dtIB1 (by kernel_rfl) (by kernel_rfl) (by kernel_rfl) (List.Sublist.refl _) ?_) | (show drawK _ _ _ _ _ _ _ _; refine draw_quiet tabOk mixed (by kernel_rfl) ?_) | (show Wp _ _ _ _ _ _ _; refine Wp.go tabOk rfl ?_) | (show @cmpK _ _ _; (first | refine cmpY ?_ | refine cmpN ?_ | (refine cmp_both ?_ ?_ <;> intro _))) | (show wrapK _ _ _; refine wrapA ?_) | (show leK _ _ _; refine leA ?_) | (show roomK _ _ _; refine roomA ?_) | (show ltK _ _ _; refine ltA ?_) | (show _ ∧ _; refine ⟨?_, ?_⟩) | (show keepK _ _ _ _ _; refine keepA ?_) | refine own_keep ?_ | refine ap_old ?_))
          all_goals (conv => whnf)
          all_goals exact ⟨(v + 1, m + 1, acc ++ [powI n.data.xs v]), [(4, some 6)], ⟨by rw [← hacc, hstep]; simp, by rw [hm]; simp, by omega, by omega, by rw [List.length_append, List.length_singleton]; omega, fun x hx => by
            rcases List.mem_append.1 hx with h | h
            · exact hf x h
            · simp at h; subst h; unfold i64; omega⟩, by simp only; omega, rfl, ⟨rfl, rfl, rfl, rfl, rfl, trivial⟩, ⟨ints_snocI _ _ hm, (by repeat (first | exact List.mem_cons_self | apply List.mem_cons_of_mem)), (by repeat (first | exact List.mem_cons_self | apply List.mem_cons_of_mem)), trivial⟩, fun _ _ h => h⟩
        · have hz0 : (H0 - v + 1).toNat = 0 := by omega
          rw [hz0] at hacc
          simp only [ptsL, List.map_nil, List.append_nil] at hacc
          (repeat' ((conv => whnf) <;> first | (show drawK _ 9 _ _ _ _ _ _; refine draw_tree tabOk mixed [] _ dtIB0 (by kernel_rfl) (by kernel_rfl) (by kernel_rfl) (List.Sublist.refl _) ?_) | (show drawK _ 11 _ _ _ _ _ _; refine draw_tree tabOk mixed [] _ dtIB1 (by kernel_rfl) (by kernel_rfl) (by kernel_rfl) (List.Sublist.refl _) ?_) | (show drawK _ _ _ _ _ _ _ _; refine draw_quiet tabOk mixed (by kernel_rfl) ?_) | (show Wp _ _ _ _ _ _ _; refine Wp.go tabOk rfl ?_) | (show @cmpK _ _ _; (first | refine cmpY ?_ | refine cmpN ?_ | (refine cmp_both ?_ ?_ <;> intro _))) | (show wrapK _ _ _; refine wrapA ?_) | (show leK _ _ _; refine leA ?_) | (show roomK _ _ _; refine roomA ?_) | (show ltK _ _ _; refine ltA ?_) | (show _ ∧ _; refine ⟨?_, ?_⟩) | (show keepK _ _ _ _ _; refine keepA ?_) | refine own_keep ?_ | refine ap_old ?_))
          all_goals (conv => whnf)
          all_goals (rw [← hacc]; exact eends_new (fun _ _ h => h) rfl (by repeat (first | exact List.mem_cons_self | apply List.mem_cons_of_mem)) hm hf (by omega))
  · have hL : endsL n a b = [a.1, a.2] := by unfold endsL; rw [if_neg (by omega), if_neg (by omega), if_neg (by omega), if_neg (by omega), if_neg (by omega)]
    rw [hL]
    refine calls_of tab tabOk Try.func58 rfl rfl rfl [] (fun _ => ⟨none, 0⟩) [.agg [.c (.int .i64 n.kind), .c (.int .i64 n.a), .c (.int .i64 n.b), .c n.shape.val, .c (.int .i64 n.lo), .c (.int .i64 n.hi), .c (.int .i64 n.size), .c n.data.val, .c n.bias.val, .c inV, .c fnV, .c (.int .i64 c)], .agg [.c (.int .i64 a.1), .c (.int .i64 a.2)], .agg [.c (.int .i64 b.1), .c (.int .i64 b.2)]] [] (baseA w) 0 rfl rfl (by show 3 ≤ _; decide) (abs_base w) ?_
    (repeat' ((conv => whnf) <;> first | (show drawK _ 9 _ _ _ _ _ _; refine draw_tree tabOk mixed [] _ dtIB0 (by kernel_rfl) (by kernel_rfl) (by kernel_rfl) (List.Sublist.refl _) ?_) | (show drawK _ 11 _ _ _ _ _ _; refine draw_tree tabOk mixed [] _ dtIB1 (by kernel_rfl) (by kernel_rfl) (by kernel_rfl) (List.Sublist.refl _) ?_) | (show drawK _ _ _ _ _ _ _ _; refine draw_quiet tabOk mixed (by kernel_rfl) ?_) | (show Wp _ _ _ _ _ _ _; refine Wp.go tabOk rfl ?_) | (show @cmpK _ _ _; (first | refine cmpY ?_ | refine cmpN ?_ | (refine cmp_both ?_ ?_ <;> intro _))) | (show wrapK _ _ _; refine wrapA ?_) | (show leK _ _ _; refine leA ?_) | (show roomK _ _ _; refine roomA ?_) | (show ltK _ _ _; refine ltA ?_) | (show _ ∧ _; refine ⟨?_, ?_⟩) | (show keepK _ _ _ _ _; refine keepA ?_) | refine own_keep ?_ | refine ap_old ?_))
    conv => whnf
    exact eends_new (fun _ _ h => h) rfl (by repeat (first | exact List.mem_cons_self | apply List.mem_cons_of_mem)) rfl (two_i64 (by omega) (by omega)) (by simp)
end Go.Proofs.Ytdmkdogakbipbaa

/- IC -/
namespace Go.Proofs.Ytdmkdogakbipbaa
open Go.SX Go.RowKit
structure NodeIn (n : NodeV) (sh : List (List Int)) (s : List Int) : Prop where
  form : formB n sh.length = true
  shape : shapeO n sh = some s
  near : nearB n = true
theorem checkR_in : ∀ {l : List NodeV} {sh0 sh : List (List Int)}, checkR l sh0 = (0, sh) → ∃ q, sh = sh0 ++ q ∧ q.length = l.length ∧ ∀ i n, l[i]? = some n → ∃ s, q[i]? = some s ∧ NodeIn n (sh0 ++ q.take i) s
  | [], sh0, sh, h => by
    obtain rfl : sh0 = sh := by simpa [checkR] using h
    exact ⟨[], by simp, rfl, fun i n hn => by simp at hn⟩
  | m :: r, sh0, sh, h => by
    by_cases hf : formB m sh0.length = false
    · rw [checkR_form hf] at h; simp at h
    have hf : formB m sh0.length = true := by simpa using hf
    cases hs : shapeO m sh0 with
    | none => rw [checkR_shape hf hs] at h; simp at h
    | some s =>
      by_cases hn : nearB m = false
      · rw [checkR_near hf hs hn] at h; simp at h
      have hn : nearB m = true := by simpa using hn
      rw [checkR_next hf hs hn] at h
      obtain ⟨q, hq, hl, ha⟩ := checkR_in h
      refine ⟨s :: q, by rw [hq, List.append_assoc]; rfl, by simp [hl], fun i n hin => ?_⟩
      cases i with
      | zero =>
        simp only [List.getElem?_cons_zero, Option.some.injEq] at hin
        subst hin
        exact ⟨s, rfl, by simpa using hf, by simpa using hs, hn⟩
      | succ i =>
        simp only [List.getElem?_cons_succ] at hin
        obtain ⟨t, h1, h2⟩ := ha i n hin
        refine ⟨t, by simpa using h1, ?_⟩
        rw [List.take_succ_cons, show sh0 ++ s :: q.take i = sh0 ++ [s] ++ q.take i by simp]
        exact h2
theorem check_in {g : GraphV} (h : (check g).1 = 0) : 1 ≤ g.l.length ∧ g.l.length ≤ 24 ∧ (0 ≤ g.out ∧ g.out < g.l.length) ∧ (check g).2.length = g.l.length ∧ ∀ i n, g.l[i]? = some n → ∃ s, (check g).2[i]? = some s ∧ NodeIn n ((check g).2.take i) s := by
  unfold check at h ⊢
  split at h
  · simp at h
  rename_i hc
  rw [if_neg hc]
  obtain ⟨q, hq, hl, ha⟩ := checkR_in (l := g.l) (sh0 := []) (sh := (checkR g.l []).2) (Prod.ext h rfl)
  rw [List.nil_append] at hq
  subst hq
  exact ⟨by omega, by omega, by omega, hl, fun i n hn => ha i n hn⟩
theorem ahead_of {n : NodeV} {at_ : Nat} (h : formB n at_ = true) : (0 ≤ n.a ∧ (n.a < at_ ∨ n.a = 0)) ∧ (0 ≤ n.b ∧ (n.b < at_ ∨ n.b = 0)) ∧ (n.kind = 7 → n.data.xs.length = 1) ∧ (n.kind = 8 → n.data.xs.length = 3) ∧ (n.kind = 2 → (n.data.xs.length : Int) = entries n.shape.xs) := by
  have hfo := formed_of h
  have hkk := hfo.kind
  unfold formB at h
  have hk : n.kind = 1 ∨ n.kind = 2 ∨ n.kind = 3 ∨ n.kind = 4 ∨ n.kind = 5 ∨ n.kind = 6 ∨ n.kind = 7 ∨ n.kind = 8 ∨ n.kind = 9 := by omega
  rcases hk with hk | hk | hk | hk | hk | hk | hk | hk | hk
  all_goals repeat (first | rw [if_pos (by omega)] at h | rw [if_neg (by omega)] at h)
  all_goals simp only [lacksB, aheadB, Bool.true_or, Bool.false_or, Bool.true_and, Bool.and_true, Bool.and_eq_true, decide_eq_true_eq] at h
  all_goals exact ⟨by omega, by omega, by omega, by omega, by omega⟩
theorem near_in {n : NodeV} (h : nearB n = true) : (∀ x ∈ n.data.xs, bd20 x) ∧ (∀ x ∈ n.bias.xs, bd20 x) ∧ bd20 n.lo ∧ bd20 n.hi ∧ n.lo ≤ n.hi := by
  unfold nearB nearL at h
  simp only [Bool.and_eq_true, List.all_eq_true, decide_eq_true_eq] at h
  exact ⟨fun x hx => h.1.1.1 x hx, fun x hx => h.1.1.2 x hx, h.1.2 n.lo (by simp), h.1.2 n.hi (by simp), h.2⟩
theorem foldl_min_le : ∀ (l : List Int) (x : Int), l.foldl min x ≤ x ∧ ∀ y ∈ l, l.foldl min x ≤ y
  | [], x => ⟨Int.le_refl _, fun y hy => by simp at hy⟩
  | z :: r, x => by
    obtain ⟨h1, h2⟩ := foldl_min_le r (min x z)
    refine ⟨by rw [List.foldl_cons]; omega, fun y hy => ?_⟩
    rw [List.foldl_cons]
    rcases List.mem_cons.1 hy with rfl | hy
    · omega
    · exact h2 y hy
theorem foldl_max_ge : ∀ (l : List Int) (x : Int), x ≤ l.foldl max x ∧ ∀ y ∈ l, y ≤ l.foldl max x
  | [], x => ⟨Int.le_refl _, fun y hy => by simp at hy⟩
  | z :: r, x => by
    obtain ⟨h1, h2⟩ := foldl_max_ge r (max x z)
    refine ⟨by rw [List.foldl_cons]; omega, fun y hy => ?_⟩
    rw [List.foldl_cons]
    rcases List.mem_cons.1 hy with rfl | hy
    · omega
    · exact h2 y hy
theorem foldI_min_le {l : List Int} {y : Int} (h : y ∈ l) : foldI min l ≤ y := by
  cases l with
  | nil => simp at h
  | cons x r =>
    rcases List.mem_cons.1 h with rfl | h
    · exact (foldl_min_le r _).1
    · exact (foldl_min_le r x).2 y h
theorem foldI_max_ge {l : List Int} {y : Int} (h : y ∈ l) : y ≤ foldI max l := by
  cases l with
  | nil => simp at h
  | cons x r =>
    rcases List.mem_cons.1 h with rfl | h
    · exact (foldl_max_ge r _).1
    · exact (foldl_max_ge r x).2 y h
theorem foldI_le {l : List Int} (h : 1 ≤ l.length) : foldI min l ≤ foldI max l := by
  cases l with
  | nil => simp at h
  | cons x r => exact Int.le_trans (foldI_min_le List.mem_cons_self) (foldI_max_ge List.mem_cons_self)
def spRows (l : List Sp) : List (List Value) := l.map fun s => [.int .i64 s.1, .int .i64 s.2]
theorem spRows_length (l : List Sp) : (spRows l).length = l.length := by simp [spRows]
theorem spRows_get {l : List Sp} {k : Nat} (h : k < l.length) : (spRows l)[k]? = some [.int .i64 l[k].1, .int .i64 l[k].2] := by simp [spRows, h]
def gridS (n : Nat) (acc : List Sp) : List Sp := acc ++ List.replicate (n - acc.length) (0, 0)
theorem gridS_length {n : Nat} {acc : List Sp} (h : acc.length ≤ n) : (gridS n acc).length = n := by unfold gridS; simp; omega
theorem gridS_getD {n j : Nat} {acc : List Sp} (h : acc.length ≤ n) (hj : j < n) : (spRows (gridS n acc))[j]? = some [.int .i64 (acc.getD j (0, 0)).1, .int .i64 (acc.getD j (0, 0)).2] := by
  rw [spRows_get (by rw [gridS_length h]; exact hj)]
  have : (gridS n acc)[j]'(by rw [gridS_length h]; exact hj) = acc.getD j (0, 0) := by
    unfold gridS
    rw [List.getElem_append]
    split
    · rename_i hlt; rw [List.getD_eq_getElem?_getD, List.getElem?_eq_getElem hlt]; rfl
    · rename_i hlt; rw [List.getD_eq_getElem?_getD, List.getElem?_eq_none (by omega)]; simp
  rw [this]
theorem gridS_store {n i : Nat} {acc : List Sp} {x y : Int} {K : List (List Value) → Prop} (hl : acc.length = i) (hi : i < n) (h : K (spRows (gridS n (acc ++ [(x, y)])))) : rowStoreK (spRows (gridS n acc)) i 0 [.int .i64 x, .int .i64 y] K := by
  subst hl
  refine rowStore_of _ (gridS_getD (Nat.le_of_lt hi) hi) (by show 0 + 2 ≤ 2; omega) ?_
  have e : (spRows (gridS n acc)).set acc.length (setFrom [.int .i64 (acc.getD acc.length (0, 0)).1, .int .i64 (acc.getD acc.length (0, 0)).2] 0 [.int .i64 x, .int .i64 y]) = spRows (gridS n (acc ++ [(x, y)])) := by
    have e2 : setFrom [.int .i64 (acc.getD acc.length (0, 0)).1, .int .i64 (acc.getD acc.length (0, 0)).2] 0 [.int .i64 x, .int .i64 y] = [Value.int .i64 x, .int .i64 y] := rfl
    rw [e2]
    unfold gridS spRows
    obtain ⟨k, hk⟩ : ∃ k, n - acc.length = k + 1 := ⟨n - acc.length - 1, by omega⟩
    rw [hk, List.length_append, List.length_singleton, show n - (acc.length + 1) = k by omega, List.replicate_succ]
    simp only [List.map_append, List.map_cons, List.map_nil]
    rw [List.set_append_right _ _ (by simp), List.length_map, Nat.sub_self, List.set_cons_zero]
    simp
  rw [e]; exact h
theorem shapes_okI {sv : ShapesV} {R : Nat → Prop} {w : World} {N : Nat} (hs : ∀ u ∈ sv.l, u.sane) (hl : sv.l.length ≤ 24) (h : ((shapesD sv).past N).holds R w) : sv.ok w :=
  ⟨rowsA_in h.1, fun u hu => intsA_ok (hs u hu) (h.2 u hu), hl⟩
theorem x_ok {w w' : World} {R : Nat → Prop} {n : NodeV} {x : IntsV × Bool} {N : Nat} (hn : n.data.ok w) (hs : x.1.sane) (ho : x.2 = true → x.1 = n.data) (hb : (baseA w).holds R w') (h : ((oldA x).past N).holds R w') : x.1.ok w' := by
  cases hx : x.2 with
  | true => rw [ho hx]; exact hn.later hb
  | false => exact intsA_ok hs (h hx)
def SpansPost (w : World) (r : Int × List Sp) (e : Ending) (w' : World) : Prop :=
  (r.1 ≠ 0 ∧ e = .returned (.tuple #[.slice none 0 0, .int .i64 r.1]) ∧ Ext w w') ∨ (r.1 = 0 ∧ ∃ v, e = .returned (.tuple #[v, .int .i64 0]) ∧ Ext w w' ∧ NewRows w w' v 2 68 (spRows r.2))
end Go.Proofs.Ytdmkdogakbipbaa

/- ID -/
namespace Go.Proofs.Ytdmkdogakbipbaa
open Go.SX Go.RowKit
theorem spans_bad {B : Base} {v : SV} {H : Heap} {S : Asn} {nx : Nat} {w : World} {r : Int × List Sp} (hb : ∀ R w', S.holds R w' → (baseA B.w0).holds R w') (hw0 : B.w0 = w) (hn : r.1 ≠ 0) (hv : ∀ ρ, v.rf ρ = .tuple #[.slice none 0 0, .int .i64 r.1]) : finK B v H S nx (SpansPost w r) := by
  subst hw0
  exact fin_of fun ρ w' hw => .inl ⟨hn, by rw [hv], ext_of_abs hw hb⟩
theorem spans_good {B : Base} {i n : Nat} {l : List Sp} {H : Heap} {S : Asn} {nx : Nat} {w : World} {r : Int × List Sp} (hb : ∀ R w', S.holds R w' → (baseA B.w0).holds R w') (hw0 : B.w0 = w) (he : (i, Ent.rows (spRows l) 2 68) ∈ H) (hn : n = l.length) (hr : r = (0, l)) : finK B (.tup [.os i n, .c (.int .i64 0)]) H S nx (SpansPost w r) := by
  subst hw0 hn hr
  refine fin_of fun ρ w' hw => .inr ⟨rfl, _, rfl, ext_of_abs hw hb, ?_⟩
  have hh := new_of_abs hw hb he
  rw [spRows_length] at hh
  exact hh
theorem endsL_len {n : NodeV} {a b : Sp} {at_ : Nat} (h : formB n at_ = true) : 1 ≤ (endsL n a b).length := by
  have h1 := (ahead_of h).2.2.2.2
  have hfo := formed_of h
  unfold endsL
  split
  · simp
  · split
    · rename_i hk
      have := hfo.own (.inr (.inl hk))
      have := h1 hk
      omega
    · split
      · simp
      · split
        · simp
        · split
          · split <;> simp
          · simp
theorem getD_sp {acc : List Sp} (h : ∀ s ∈ acc, bd20 s.1 ∧ bd20 s.2) (k : Nat) : bd20 (acc.getD k (0, 0)).1 ∧ bd20 (acc.getD k (0, 0)).2 := by
  rcases Nat.lt_or_ge k acc.length with hk | hk
  · rw [List.getD_eq_getElem?_getD, List.getElem?_eq_getElem hk]; exact h _ (List.getElem_mem hk)
  · rw [List.getD_eq_getElem?_getD, List.getElem?_eq_none hk]; exact ⟨⟨by decide, by decide⟩, ⟨by decide, by decide⟩⟩
theorem gridS_at {n i : Nat} {acc : List Sp} {s : Sp} (hl : acc.length = i) (hi : i < n) : (spRows (gridS n (acc ++ [s])))[i]? = some [.int .i64 s.1, .int .i64 s.2] := by
  subst hl
  rw [gridS_getD (by rw [List.length_append, List.length_singleton]; omega) hi]
  simp [List.getD_eq_getElem?_getD]
end Go.Proofs.Ytdmkdogakbipbaa

/- IE -/
namespace Go.Proofs.Ytdmkdogakbipbaa
open Go.SX Go.RowKit
theorem pow_diff (d : List Int) (u v : Int) : powI d v - powI d u = (v - u) * (d.getD 2 0 * (u + v) + d.getD 1 0) := by
  unfold powI
  generalize d.getD 2 0 = a
  generalize d.getD 1 0 = b
  generalize d.getD 0 0 = c
  grind
theorem turn_lo {a b : Int} (ha : 0 < a) : 2 * a * ((0 - b).tdiv (2 * a) - 1) + b ≤ 0 ∧ 0 ≤ 2 * a * ((0 - b).tdiv (2 * a) + 1) + b := by
  have h1 := Int.mul_tdiv_add_tmod (0 - b) (2 * a)
  have h2 : ((0 - b).tmod (2 * a)).natAbs < (2 * a).natAbs := by
    rw [Int.natAbs_tmod]; exact Nat.mod_lt _ (by omega)
  have h3 : 2 * a * ((0 - b).tdiv (2 * a) - 1) = 2 * a * (0 - b).tdiv (2 * a) - 2 * a := by rw [Int.mul_sub, Int.mul_one]
  have h4 : 2 * a * ((0 - b).tdiv (2 * a) + 1) = 2 * a * (0 - b).tdiv (2 * a) + 2 * a := by rw [Int.mul_add, Int.mul_one]
  rw [h3, h4]
  omega
theorem mono_up {a b T u v : Int} (ha : 0 < a) (hT : 0 ≤ 2 * a * (T + 1) + b) (h1 : T + 1 ≤ u) (h2 : u ≤ v) : 0 ≤ (v - u) * (a * (u + v) + b) := by
  refine Int.mul_nonneg (by omega) ?_
  have h3 : a * (2 * (T + 1)) ≤ a * (u + v) := Int.mul_le_mul_of_nonneg_left (by omega) (by omega)
  have h4 : 2 * a * (T + 1) = a * (2 * (T + 1)) := by grind
  omega
theorem mono_down {a b T u v : Int} (ha : 0 < a) (hT : 2 * a * (T - 1) + b ≤ 0) (h1 : v ≤ T - 1) (h2 : u ≤ v) : (v - u) * (a * (u + v) + b) ≤ 0 := by
  refine Int.mul_nonpos_of_nonneg_of_nonpos (by omega) ?_
  have h3 : a * (u + v) ≤ a * (2 * (T - 1)) := Int.mul_le_mul_of_nonneg_left (by omega) (by omega)
  have h4 : 2 * a * (T - 1) = a * (2 * (T - 1)) := by grind
  omega
/-- p falls up to T - 1 and grows from T + 1, or the other way round -/
theorem pow_ways {d : List Int} (h : d.getD 2 0 ≠ 0) :
    ((∀ u v, u ≤ v → v ≤ turnI d - 1 → powI d v ≤ powI d u) ∧ (∀ u v, turnI d + 1 ≤ u → u ≤ v → powI d u ≤ powI d v)) ∨
    ((∀ u v, u ≤ v → v ≤ turnI d - 1 → powI d u ≤ powI d v) ∧ (∀ u v, turnI d + 1 ≤ u → u ≤ v → powI d v ≤ powI d u)) := by
  rcases (by omega : 0 < d.getD 2 0 ∨ d.getD 2 0 < 0) with ha | ha
  · obtain ⟨t1, t2⟩ := turn_lo (b := d.getD 1 0) ha
    left
    refine ⟨fun u v h1 h2 => ?_, fun u v h1 h2 => ?_⟩
    · have := pow_diff d u v
      have := mono_down ha t1 h2 h1
      omega
    · have := pow_diff d u v
      have := mono_up ha t2 h1 h2
      omega
  · have ha' : 0 < -(d.getD 2 0) := by omega
    obtain ⟨t1, t2⟩ := turn_lo (b := -(d.getD 1 0)) ha'
    have hT : (0 - -(d.getD 1 0)).tdiv (2 * -(d.getD 2 0)) = turnI d := by
      unfold turnI
      rw [show 0 - -(d.getD 1 0) = -(0 - d.getD 1 0) by omega, show 2 * -(d.getD 2 0) = -(2 * d.getD 2 0) by omega, Int.neg_tdiv, Int.tdiv_neg, Int.neg_neg]
    rw [hT] at t1 t2
    have hneg : ∀ u v : Int, (v - u) * (-(d.getD 2 0) * (u + v) + -(d.getD 1 0)) = -((v - u) * (d.getD 2 0 * (u + v) + d.getD 1 0)) := fun u v => by grind
    right
    refine ⟨fun u v h1 h2 => ?_, fun u v h1 h2 => ?_⟩
    · have := pow_diff d u v
      have h3 := mono_down ha' t1 h2 h1
      rw [hneg] at h3
      omega
    · have := pow_diff d u v
      have h3 := mono_up ha' t2 h1 h2
      rw [hneg] at h3
      omega
theorem mem_ptsL : ∀ {n : Nat} {v x : Int}, x ∈ ptsL n v ↔ v ≤ x ∧ x < v + n
  | 0, v, x => by simp [ptsL]
  | n + 1, v, x => by
    unfold ptsL
    rw [List.mem_cons, mem_ptsL]
    omega
def powEnds (d : List Int) (a : Sp) : List Int := if d.getD 2 0 = 0 then [powI d a.1, powI d a.2] else [powI d a.1, powI d a.2] ++ (ptsL (hiI d a - loI d a + 1).toNat (loI d a)).map (powI d)
theorem powEnds_lo {d : List Int} {a : Sp} : powI d a.1 ∈ powEnds d a := by unfold powEnds; split <;> simp
theorem powEnds_hi {d : List Int} {a : Sp} : powI d a.2 ∈ powEnds d a := by unfold powEnds; split <;> simp
theorem powEnds_in {d : List Int} {a : Sp} {v : Int} (hz : d.getD 2 0 ≠ 0) (h1 : loI d a ≤ v) (h2 : v ≤ hiI d a) : powI d v ∈ powEnds d a := by
  unfold powEnds
  rw [if_neg hz]
  exact List.mem_append_right _ (List.mem_map.2 ⟨v, mem_ptsL.2 ⟨h1, by omega⟩, rfl⟩)
theorem powEnds_all {d : List Int} {a : Sp} {v : Int} (h1 : a.1 ≤ v) (h2 : v ≤ a.2) : (∃ x ∈ powEnds d a, x ≤ powI d v) ∧ (∃ x ∈ powEnds d a, powI d v ≤ x) := by
  by_cases hz : d.getD 2 0 = 0
  · have e1 := pow_diff d a.1 v
    have e2 := pow_diff d v a.2
    rw [hz] at e1 e2
    rw [Int.zero_mul, Int.zero_add] at e1 e2
    rcases (by omega : 0 ≤ d.getD 1 0 ∨ d.getD 1 0 ≤ 0) with hb | hb
    · have m1 := Int.mul_nonneg (show 0 ≤ v - a.1 by omega) hb
      have m2 := Int.mul_nonneg (show 0 ≤ a.2 - v by omega) hb
      exact ⟨⟨_, powEnds_lo, by omega⟩, ⟨_, powEnds_hi, by omega⟩⟩
    · have m1 := Int.mul_nonpos_of_nonneg_of_nonpos (show 0 ≤ v - a.1 by omega) hb
      have m2 := Int.mul_nonpos_of_nonneg_of_nonpos (show 0 ≤ a.2 - v by omega) hb
      exact ⟨⟨_, powEnds_hi, by omega⟩, ⟨_, powEnds_lo, by omega⟩⟩
  · by_cases hin : loI d a ≤ v ∧ v ≤ hiI d a
    · exact ⟨⟨_, powEnds_in hz hin.1 hin.2, Int.le_refl _⟩, ⟨_, powEnds_in hz hin.1 hin.2, Int.le_refl _⟩⟩
    · have hL : loI d a = max a.1 (turnI d - 1) := rfl
      have hH : hiI d a = min a.2 (turnI d + 1) := rfl
      rcases (by omega : v < loI d a ∨ hiI d a < v) with hv | hv
      · have hvT : v ≤ turnI d - 1 := by omega
        rcases (by omega : turnI d - 1 ≤ a.2 ∨ a.2 ≤ turnI d - 1) with hc | hc
        · have hm := powEnds_in (a := a) (v := turnI d - 1) hz (by omega) (by omega)
          rcases pow_ways hz with ⟨w1, _⟩ | ⟨w1, _⟩
          · exact ⟨⟨_, hm, w1 v (turnI d - 1) hvT (Int.le_refl _)⟩, ⟨_, powEnds_lo, w1 a.1 v h1 hvT⟩⟩
          · exact ⟨⟨_, powEnds_lo, w1 a.1 v h1 hvT⟩, ⟨_, hm, w1 v (turnI d - 1) hvT (Int.le_refl _)⟩⟩
        · rcases pow_ways hz with ⟨w1, _⟩ | ⟨w1, _⟩
          · exact ⟨⟨_, powEnds_hi, w1 v a.2 h2 hc⟩, ⟨_, powEnds_lo, w1 a.1 v h1 hvT⟩⟩
          · exact ⟨⟨_, powEnds_lo, w1 a.1 v h1 hvT⟩, ⟨_, powEnds_hi, w1 v a.2 h2 hc⟩⟩
      · have hvT : turnI d + 1 ≤ v := by omega
        rcases (by omega : a.1 ≤ turnI d + 1 ∨ turnI d + 1 ≤ a.1) with hc | hc
        · have hm := powEnds_in (a := a) (v := turnI d + 1) hz (by omega) (by omega)
          rcases pow_ways hz with ⟨_, w2⟩ | ⟨_, w2⟩
          · exact ⟨⟨_, hm, w2 (turnI d + 1) v (Int.le_refl _) hvT⟩, ⟨_, powEnds_hi, w2 v a.2 hvT h2⟩⟩
          · exact ⟨⟨_, powEnds_hi, w2 v a.2 hvT h2⟩, ⟨_, hm, w2 (turnI d + 1) v (Int.le_refl _) hvT⟩⟩
        · rcases pow_ways hz with ⟨_, w2⟩ | ⟨_, w2⟩
          · exact ⟨⟨_, powEnds_lo, w2 a.1 v hc h1⟩, ⟨_, powEnds_hi, w2 v a.2 hvT h2⟩⟩
          · exact ⟨⟨_, powEnds_hi, w2 v a.2 hvT h2⟩, ⟨_, powEnds_lo, w2 a.1 v hc h1⟩⟩
theorem pow_within {d : List Int} {a : Sp} {v : Int} (h1 : a.1 ≤ v) (h2 : v ≤ a.2) : foldI min (powEnds d a) ≤ powI d v ∧ powI d v ≤ foldI max (powEnds d a) := by
  obtain ⟨⟨x, hx, hx'⟩, ⟨y, hy, hy'⟩⟩ := powEnds_all (d := d) h1 h2
  exact ⟨Int.le_trans (foldI_min_le hx) hx', Int.le_trans hy' (foldI_max_ge hy)⟩
theorem foldl_min_mem : ∀ (l : List Int) (x : Int), l.foldl min x = x ∨ l.foldl min x ∈ l
  | [], x => .inl rfl
  | z :: r, x => by
    rw [List.foldl_cons]
    rcases foldl_min_mem r (min x z) with h | h
    · rw [h]
      rcases (by omega : min x z = x ∨ min x z = z) with h | h
      · exact .inl h
      · exact .inr (by rw [h]; exact List.mem_cons_self)
    · exact .inr (List.mem_cons_of_mem _ h)
theorem foldl_max_mem : ∀ (l : List Int) (x : Int), l.foldl max x = x ∨ l.foldl max x ∈ l
  | [], x => .inl rfl
  | z :: r, x => by
    rw [List.foldl_cons]
    rcases foldl_max_mem r (max x z) with h | h
    · rw [h]
      rcases (by omega : max x z = x ∨ max x z = z) with h | h
      · exact .inl h
      · exact .inr (by rw [h]; exact List.mem_cons_self)
    · exact .inr (List.mem_cons_of_mem _ h)
theorem foldI_min_mem {l : List Int} (h : 1 ≤ l.length) : foldI min l ∈ l := by
  cases l with
  | nil => simp at h
  | cons x r =>
    rcases foldl_min_mem r x with h | h
    · rw [foldI, h]; exact List.mem_cons_self
    · exact List.mem_cons_of_mem _ h
theorem foldI_max_mem {l : List Int} (h : 1 ≤ l.length) : foldI max l ∈ l := by
  cases l with
  | nil => simp at h
  | cons x r =>
    rcases foldl_max_mem r x with h | h
    · rw [foldI, h]; exact List.mem_cons_self
    · exact List.mem_cons_of_mem _ h
end Go.Proofs.Ytdmkdogakbipbaa

/- IF -/
namespace Go.Proofs.Ytdmkdogakbipbaa
abbrev dtIF0 : Go.SX.DT := (.take 0 (.take 1 (.take 2 (.take 3 (.take 4 (.take 5 (.take 6 (.take 7 (.take 8 (.take 9 (.take 10 (.take 11 (.one 12 (.done))))))))))))))
abbrev dtIF1 : Go.SX.DT := (.take 0 (.take 1 (.take 2 (.take 3 (.take 4 (.take 5 (.take 6 (.take 7 (.take 8 (.take 9 (.take 10 (.take 11 (.take 12 (.one 13 (.done)))))))))))))))
abbrev dtIF2 : Go.SX.DT := (.take 0 (.take 1 (.take 2 (.take 3 (.take 4 (.take 5 (.take 6 (.one 7 (.take 8 (.one 9 (.done)))))))))))
abbrev dtIF3 : Go.SX.DT := (.take 0 (.take 1 (.take 2 (.take 3 (.take 4 (.take 5 (.take 6 (.take 7 (.take 8 (.take 9 (.take 10 (.take 11 (.take 12 (.take 13 (.one 14 (.done))))))))))))))))
open Go.SX Go.RowKit
def numAt (n : NodeV) (a b : List Int) (o : Nat) : Int :=
  if n.kind = 2 then n.data.xs.getD o 0
  else if n.kind = 6 then a.getD o 0 + b.getD o 0
  else if n.kind = 7 then a.getD o 0 * n.data.xs.getD 0 0
  else if n.kind = 8 then powI n.data.xs (a.getD o 0)
  else a.getD o 0
def numsL (n : NodeV) (cnt : Nat) (a b : List Int) : List Int := (List.range cnt).map (numAt n a b)
def gridI (n : Nat) (l : List Int) : List Int := l ++ List.replicate (n - l.length) 0
theorem gridI_length {n : Nat} {l : List Int} (h : l.length ≤ n) : (gridI n l).length = n := by unfold gridI; simp; omega
theorem gridI_store {n i : Nat} {l : List Int} {x : Int} {K : List (List Value) → Prop} (hl : l.length = i) (hi : i < n) (h : K (ints (gridI n (l ++ [x])))) : rowStoreK (ints (gridI n l)) i 0 [.int .i64 x] K := by
  subst hl
  refine rowStore_of [.int .i64 0] ?_ (by show 0 + 1 ≤ 1; omega) ?_
  · rw [ints_get (by rw [gridI_length (by omega)]; exact hi)]
    simp [gridI, List.getElem_append]
  · have e : (ints (gridI n l)).set l.length (setFrom [.int .i64 0] 0 [.int .i64 x]) = ints (gridI n (l ++ [x])) := by
      have e2 : setFrom [Value.int .i64 0] 0 [.int .i64 x] = [Value.int .i64 x] := rfl
      rw [e2]
      unfold gridI ints
      obtain ⟨k, hk⟩ : ∃ k, n - l.length = k + 1 := ⟨n - l.length - 1, by omega⟩
      rw [hk, List.length_append, List.length_singleton, show n - (l.length + 1) = k by omega, List.replicate_succ]
      simp only [List.map_append, List.map_cons, List.map_nil]
      rw [List.set_append_right _ _ (by simp), List.length_map, Nat.sub_self, List.set_cons_zero]
      simp
    rw [e]; exact h
structure NumsOk (w : World) (n : NodeV) (cnt : Nat) (a b : IntsV) : Prop where
  kind : n.kind = 2 ∨ n.kind = 6 ∨ n.kind = 7 ∨ n.kind = 8 ∨ n.kind = 9
  few : cnt ≤ 64
  data : n.data.ok w
  dataBd : ∀ x ∈ n.data.xs, bd20 x
  const : n.kind = 2 → n.data.xs.length = cnt
  scale : n.kind = 7 → n.data.xs.length = 1
  power : n.kind = 8 → n.data.xs.length = 3
  aOk : a.ok w
  bOk : b.ok w
  aLen : n.kind ≠ 2 → a.xs.length = cnt
  bLen : n.kind = 6 → b.xs.length = cnt
  aBd : ∀ x ∈ a.xs, bd20 x
  bBd : ∀ x ∈ b.xs, bd20 x
def NewInts (w : World) (l : List Int) (e : Ending) (w' : World) : Prop :=
  ∃ x : IntsV, (x.xs = l ∧ x.sane) ∧ e = .returned x.val ∧ Ext w w' ∧ (intsA x).holds (fun b => w.heap.size ≤ b ∧ b < w'.heap.size) w'
theorem ints_end {B : Base} {i m : Nat} {H : Heap} {S : Asn} {nx : Nat} {w : World} {l : List Int} (hb : ∀ R w', S.holds R w' → (baseA B.w0).holds R w') (hw0 : B.w0 = w) (he : (i, Ent.rows (ints l) 1 3) ∈ H) (hm : m = l.length) (hf : ∀ x ∈ l, i64 x) (hl : l.length ≤ 1000000) : finK B (.os i m) H S nx (NewInts w l) := by
  subst hw0 hm
  refine fin_of fun ρ w' hw => ?_
  have hn := new_of_abs hw hb he
  rw [ints_length] at hn
  obtain ⟨u, e1, e2, e3, e4⟩ := newInts hn hf hl
  exact ⟨u, ⟨e2, e3⟩, by rw [e1], ext_of_abs hw hb, e4⟩
theorem ints_endG {B : Base} {i m : Nat} {H : Heap} {S : Asn} {nx : Nat} {w : World} {l l' : List Int} (hl' : l' = l) (hb : ∀ R w', S.holds R w' → (baseA B.w0).holds R w') (hw0 : B.w0 = w) (he : (i, Ent.rows (ints l') 1 3) ∈ H) (hm : m = l.length) (hf : ∀ x ∈ l, i64 x) (hl : l.length ≤ 1000000) : finK B (.os i m) H S nx (NewInts w l) := by
  subst hl'; exact ints_end hb hw0 he hm hf hl
theorem numAt_bd {w : World} {n : NodeV} {cnt : Nat} {a b : IntsV} (h : NumsOk w n cnt a b) (o : Nat) : -4611686018427387904 ≤ numAt n a.xs b.xs o ∧ numAt n a.xs b.xs o ≤ 4611686018427387904 := by
  have h1 := getD_bd h.dataBd o
  have h2 := getD_bd h.dataBd 0
  have h3 := getD_bd h.aBd o
  have h4 := getD_bd h.bBd o
  have h5 := mul_bd (A := 1048576) (B := 1048576) h3 h2
  have h6 := powI_bd h.dataBd h3
  unfold bd20 at h1 h2 h3 h4
  unfold numAt
  split
  · omega
  · split
    · omega
    · split
      · omega
      · split <;> omega
set_option maxRecDepth 20000 in
set_option maxHeartbeats 1000000 in
theorem nums_plain (w : World) (n : NodeV) (inV fnV : Value) (cnt : Nat) (a b : IntsV) (h : NumsOk w n cnt a b) : Calls Try.prog 45 #[placeV n inV fnV cnt, a.val, b.val] w (NewInts w (numsL n cnt a.xs b.xs)) := by
  have hbd := numAt_bd h
  obtain ⟨hk, hfew, hd, hdb, hco, hsc, hpo, ha, hb, hal, hbl, hab, hbb⟩ := h
  refine calls_of tab tabOk Try.func45 rfl rfl rfl [] (fun _ => ⟨none, 0⟩) [.agg [.c (.int .i64 n.kind), .c (.int .i64 n.a), .c (.int .i64 n.b), .c n.shape.val, .c (.int .i64 n.lo), .c (.int .i64 n.hi), .c (.int .i64 n.size), .c n.data.val, .c n.bias.val, .c inV, .c fnV, .c (.int .i64 (cnt : Int))], .c a.val, .c b.val] [] (baseA w) 0 rfl rfl (by show 3 ≤ _; decide) (abs_base w) ?_
  (repeat' ((conv => whnf) <;> first | (show makeK _ _ _ _; (refine make_of cnt rfl rfl (by show 8 * _ ≤ _; omega) (by omega) ?_)) | (show drawK _ 15 _ _ _ _ _ _; refine draw_tree tabOk mixed [12] _ dtIF0 (by kernel_rfl) (by kernel_rfl) (by kernel_rfl) (List.Sublist.refl _) ?_) | (show drawK _ 17 _ _ _ _ _ _; refine draw_tree tabOk mixed [13] _ dtIF1 (by kernel_rfl) (by kernel_rfl) (by kernel_rfl) (List.Sublist.refl _) ?_) | (show drawK _ 19 _ _ _ _ _ _; refine draw_tree tabOk mixed [9] _ dtIF2 (by kernel_rfl) (by kernel_rfl) (by kernel_rfl) (List.Sublist.refl _) ?_) | (show drawK _ 10 _ _ _ _ _ _; refine draw_tree tabOk mixed [14] _ dtIF3 (by kernel_rfl) (by kernel_rfl) (by kernel_rfl) (List.Sublist.refl _) ?_) | (show Wp _ _ _ _ _ _ _; refine Wp.go tabOk rfl ?_) | (show @cmpK _ _ _; (first | refine cmpY ?_ | refine cmpN ?_ | (refine cmp_both ?_ ?_ <;> intro _))) | (show wrapK _ _ _; refine wrapA ?_) | (show leK _ _ _; refine leA ?_) | (show roomK _ _ _; refine roomA ?_) | (show ltK _ _ _; refine ltA ?_) | (show _ ∧ _; refine ⟨?_, ?_⟩) | (show keepK _ _ _ _ _; refine keepA ?_) | refine own_keep ?_ | refine ap_old ?_))
  refine Wp.loop (σ := Nat) 2 (fun o => [(1, .c a.val), (2, .c b.val), (3, .lp 0 0 0 0), (7, .os 1 cnt), (15, .c (.int .i64 cnt)), (16, .c (.int .i64 o))]) (fun o => [(1, .rows (ints (gridI cnt (numsL n o a.xs b.xs))) 1 3), (0, .box [.c (.int .i64 n.kind), .c (.int .i64 n.a), .c (.int .i64 n.b), .c n.shape.val, .c (.int .i64 n.lo), .c (.int .i64 n.hi), .c (.int .i64 n.size), .c n.data.val, .c n.bias.val, .c inV, .c fnV, .c (.int .i64 (cnt : Int))] 75)]) (fun _ => baseA w)
    (fun o => o ≤ cnt) (fun o => cnt - o) 0 [] (by decide) (fun s => ⟨rfl, rfl⟩) (Nat.zero_le _) ⟨rfl, ⟨rfl, rfl, rfl, rfl, rfl, rfl, trivial⟩, ⟨?_, (by repeat (first | exact List.mem_cons_self | apply List.mem_cons_of_mem)), trivial⟩, fun _ _ h => h⟩ ?_
  · have : ints (gridI cnt (numsL n 0 a.xs b.xs)) = List.replicate cnt [Value.int .i64 0] := by simp [ints, gridI, numsL]
    show (1, Ent.rows (ints (gridI cnt (numsL n 0 a.xs b.xs))) 1 3) ∈ _
    rw [this]
    exact (by repeat (first | exact List.mem_cons_self | apply List.mem_cons_of_mem))
  rintro o ho
  have hlen : (numsL n o a.xs b.xs).length = o := by simp [numsL]
  by_cases hlt : o < cnt
  · have hsnoc : numsL n (o + 1) a.xs b.xs = numsL n o a.xs b.xs ++ [numAt n a.xs b.xs o] := by unfold numsL; rw [List.range_succ, List.map_append]; rfl
    have hbo := hbd o
    rcases hk with hk | hk | hk | hk | hk
    · have hN : numAt n a.xs b.xs o = n.data.xs.getD o 0 := if_pos hk
      rw [hN] at hsnoc hbo
      have hcl := hco hk
      obtain ⟨ua, hua⟩ := hd.base (by omega)
      have hur : ∀ (R : Nat → Prop) w', (baseA w).holds R w' → RowsI w' (some ua) 1 (ints n.data.xs) := fun R w' h => by rw [← hua]; exact rows_base h hd.rows
      (repeat' ((conv => whnf) <;> first | (show idxK _ _ _ _ _; refine idx_of _ o hua rfl (by omega) ?_) | (show roK _ _ _; refine ro_int hur (j := o) (by omega) ?_) | (show idxRowK _ _ _ _ _ _; (refine idxRow_of o rfl hlt (by rw [ints_length, gridI_length (by omega)]; exact Nat.le_refl _) ?_)) | (show rowStoreK _ _ _ _ _; refine gridI_store hlen hlt ?_) | (show drawK _ 15 _ _ _ _ _ _; refine draw_tree tabOk mixed [12] _ dtIF0 (by kernel_rfl) (by kernel_rfl) (by kernel_rfl) (List.Sublist.refl _) ?_) | (show drawK _ 17 _ _ _ _ _ _; refine draw_tree tabOk mixed [13] _ dtIF1 (by kernel_rfl) (by kernel_rfl) (by kernel_rfl) (List.Sublist.refl _) ?_) | (show drawK _ 19 _ _ _ _ _ _; refine draw_tree tabOk mixed [9] _ dtIF2 (by kernel_rfl) (by kernel_rfl) (by kernel_rfl) (List.Sublist.refl _) ?_) | (show drawK _ 10 _ _ _ _ _ _; refine draw_tree tabOk mixed [14] _ dtIF3 (by kernel_rfl) (by kernel_rfl) (by kernel_rfl) (List.Sublist.refl _) ?_) | (show Wp _ _ _ _ _ _ _; refine Wp.go tabOk rfl ?_) | (show @cmpK _ _ _; (first | refine cmpY ?_ | refine cmpN ?_ | (refine cmp_both ?_ ?_ <;> intro _))) | (show wrapK _ _ _; refine wrapA ?_) | (show leK _ _ _; refine leA ?_) | (show roomK _ _ _; refine roomA ?_) | (show ltK _ _ _; refine ltA ?_) | (show _ ∧ _; refine ⟨?_, ?_⟩) | (show keepK _ _ _ _ _; refine keepA ?_) | refine own_keep ?_ | refine ap_old ?_))
      conv => whnf
      exact ⟨o + 1, [], hlt, by omega, rfl, ⟨rfl, rfl, rfl, rfl, rfl, rfl, trivial⟩, ⟨by rw [hsnoc]; exact (by repeat (first | exact List.mem_cons_self | apply List.mem_cons_of_mem)), (by repeat (first | exact List.mem_cons_self | apply List.mem_cons_of_mem)), trivial⟩, fun _ _ h => h⟩
    · have hN : numAt n a.xs b.xs o = a.xs.getD o 0 + b.xs.getD o 0 := by unfold numAt; rw [if_neg (by omega), if_pos hk]
      rw [hN] at hsnoc hbo
      have hcl := hal (by omega)
      have hbl := hbl hk
      obtain ⟨ua, hua⟩ := ha.base (by omega)
      obtain ⟨ub, hub⟩ := hb.base (by omega)
      have hur : ∀ (R : Nat → Prop) w', (baseA w).holds R w' → RowsI w' (some ua) 1 (ints a.xs) := fun R w' h => by rw [← hua]; exact rows_base h ha.rows
      have hvr : ∀ (R : Nat → Prop) w', (baseA w).holds R w' → RowsI w' (some ub) 1 (ints b.xs) := fun R w' h => by rw [← hub]; exact rows_base h hb.rows
      (repeat' ((conv => whnf) <;> first | (show idxK _ _ _ _ _; refine idx_of _ o hua rfl (by omega) ?_) | (show roK _ _ _; refine ro_int hur (j := o) (by omega) ?_) | (show idxK _ _ _ _ _; refine idx_of _ o hub rfl (by omega) ?_) | (show roK _ _ _; refine ro_int hvr (j := o) (by omega) ?_) | (show idxRowK _ _ _ _ _ _; (refine idxRow_of o rfl hlt (by rw [ints_length, gridI_length (by omega)]; exact Nat.le_refl _) ?_)) | (show rowStoreK _ _ _ _ _; refine gridI_store hlen hlt ?_) | (show drawK _ 15 _ _ _ _ _ _; refine draw_tree tabOk mixed [12] _ dtIF0 (by kernel_rfl) (by kernel_rfl) (by kernel_rfl) (List.Sublist.refl _) ?_) | (show drawK _ 17 _ _ _ _ _ _; refine draw_tree tabOk mixed [13] _ dtIF1 (by kernel_rfl) (by kernel_rfl) (by kernel_rfl) (List.Sublist.refl _) ?_) | (show drawK _ 19 _ _ _ _ _ _; refine draw_tree tabOk mixed [9] _ dtIF2 (by kernel_rfl) (by kernel_rfl) (by kernel_rfl) (List.Sublist.refl _) ?_) | (show drawK _ 10 _ _ _ _ _ _; refine draw_tree tabOk mixed [14] _ dtIF3 (by kernel_rfl) (by kernel_rfl) (by kernel_rfl) (List.Sublist.refl _) ?_) | (show Wp _ _ _ _ _ _ _; refine Wp.go tabOk rfl ?_) | (show @cmpK _ _ _; (first | refine cmpY ?_ | refine cmpN ?_ | (refine cmp_both ?_ ?_ <;> intro _))) | (show wrapK _ _ _; refine wrapA ?_) | (show leK _ _ _; refine leA ?_) | (show roomK _ _ _; refine roomA ?_) | (show ltK _ _ _; refine ltA ?_) | (show _ ∧ _; refine ⟨?_, ?_⟩) | (show keepK _ _ _ _ _; refine keepA ?_) | refine own_keep ?_ | refine ap_old ?_))
      all_goals (conv => whnf)
      all_goals exact ⟨o + 1, [], hlt, by omega, rfl, ⟨rfl, rfl, rfl, rfl, rfl, rfl, trivial⟩, ⟨by rw [hsnoc]; exact (by repeat (first | exact List.mem_cons_self | apply List.mem_cons_of_mem)), (by repeat (first | exact List.mem_cons_self | apply List.mem_cons_of_mem)), trivial⟩, fun _ _ h => h⟩
    · have hN : numAt n a.xs b.xs o = a.xs.getD o 0 * n.data.xs.getD 0 0 := by unfold numAt; rw [if_neg (by omega), if_neg (by omega), if_pos hk]
      rw [hN] at hsnoc hbo
      have hcl := hal (by omega)
      have hdl := hsc hk
      obtain ⟨ua, hua⟩ := ha.base (by omega)
      obtain ⟨ub, hub⟩ := hd.base (by omega)
      have hur : ∀ (R : Nat → Prop) w', (baseA w).holds R w' → RowsI w' (some ua) 1 (ints a.xs) := fun R w' h => by rw [← hua]; exact rows_base h ha.rows
      have hvr : ∀ (R : Nat → Prop) w', (baseA w).holds R w' → RowsI w' (some ub) 1 (ints n.data.xs) := fun R w' h => by rw [← hub]; exact rows_base h hd.rows
      (repeat' ((conv => whnf) <;> first | (show idxK _ _ _ _ _; refine idx_of _ o hua rfl (by omega) ?_) | (show roK _ _ _; refine ro_int hur (j := o) (by omega) ?_) | (show idxK _ _ _ _ _; refine idx_of _ 0 hub rfl (by omega) ?_) | (show roK _ _ _; refine ro_int hvr (j := 0) (by omega) ?_) | (show idxRowK _ _ _ _ _ _; (refine idxRow_of o rfl hlt (by rw [ints_length, gridI_length (by omega)]; exact Nat.le_refl _) ?_)) | (show rowStoreK _ _ _ _ _; refine gridI_store hlen hlt ?_) | (show drawK _ 15 _ _ _ _ _ _; refine draw_tree tabOk mixed [12] _ dtIF0 (by kernel_rfl) (by kernel_rfl) (by kernel_rfl) (List.Sublist.refl _) ?_) | (show drawK _ 17 _ _ _ _ _ _; refine draw_tree tabOk mixed [13] _ dtIF1 (by kernel_rfl) (by kernel_rfl) (by kernel_rfl) (List.Sublist.refl _) ?_) | (show drawK _ 19 _ _ _ _ _ _; refine draw_tree tabOk mixed [9] _ dtIF2 (by kernel_rfl) (by kernel_rfl) (by kernel_rfl) (List.Sublist.refl _) ?_) | (show drawK _ 10 _ _ _ _ _ _; refine draw_tree tabOk mixed [14] _ dtIF3 (by kernel_rfl) (by kernel_rfl) (by kernel_rfl) (List.Sublist.refl _) ?_) | (show Wp _ _ _ _ _ _ _; refine Wp.go tabOk rfl ?_) | (show @cmpK _ _ _; (first | refine cmpY ?_ | refine cmpN ?_ | (refine cmp_both ?_ ?_ <;> intro _))) | (show wrapK _ _ _; refine wrapA ?_) | (show leK _ _ _; refine leA ?_) | (show roomK _ _ _; refine roomA ?_) | (show ltK _ _ _; refine ltA ?_) | (show _ ∧ _; refine ⟨?_, ?_⟩) | (show keepK _ _ _ _ _; refine keepA ?_) | refine own_keep ?_ | refine ap_old ?_))
      all_goals (conv => whnf)
      all_goals exact ⟨o + 1, [], hlt, by omega, rfl, ⟨rfl, rfl, rfl, rfl, rfl, rfl, trivial⟩, ⟨by rw [hsnoc]; exact (by repeat (first | exact List.mem_cons_self | apply List.mem_cons_of_mem)), (by repeat (first | exact List.mem_cons_self | apply List.mem_cons_of_mem)), trivial⟩, fun _ _ h => h⟩
    · have hN : numAt n a.xs b.xs o = powI n.data.xs (a.xs.getD o 0) := by unfold numAt; rw [if_neg (by omega), if_neg (by omega), if_neg (by omega), if_pos hk]
      rw [hN] at hsnoc hbo
      have hcl := hal (by omega)
      have hdl := hpo hk
      obtain ⟨ua, hua⟩ := ha.base (by omega)
      have hur : ∀ (R : Nat → Prop) w', (baseA w).holds R w' → RowsI w' (some ua) 1 (ints a.xs) := fun R w' h => by rw [← hua]; exact rows_base h ha.rows
      (repeat' ((conv => whnf) <;> first | (show idxK _ _ _ _ _; refine idx_of _ o hua rfl (by omega) ?_) | (show roK _ _ _; refine ro_int hur (j := o) (by omega) ?_) | (show idxRowK _ _ _ _ _ _; (refine idxRow_of o rfl hlt (by rw [ints_length, gridI_length (by omega)]; exact Nat.le_refl _) ?_)) | (show rowStoreK _ _ _ _ _; refine gridI_store hlen hlt ?_) | (show callK _ 78 _ _ _ _ _; refine call_pure (f := 78) Try.call78 (.int .i64 (powI n.data.xs (a.xs.getD o 0))) (fun ρ w' hw => power_any w' n (holds_of_abs hw fun R h => hd.later h) hdl hdb inV fnV cnt (a.xs.getD o 0) (getD_bd hab o)) ?_) | (show drawK _ 15 _ _ _ _ _ _; refine draw_tree tabOk mixed [12] _ dtIF0 (by kernel_rfl) (by kernel_rfl) (by kernel_rfl) (List.Sublist.refl _) ?_) | (show drawK _ 17 _ _ _ _ _ _; refine draw_tree tabOk mixed [13] _ dtIF1 (by kernel_rfl) (by kernel_rfl) (by kernel_rfl) (List.Sublist.refl _) ?_) | (show drawK _ 19 _ _ _ _ _ _; refine draw_tree tabOk mixed [9] _ dtIF2 (by kernel_rfl) (by kernel_rfl) (by kernel_rfl) (List.Sublist.refl _) ?_) | (show drawK _ 10 _ _ _ _ _ _; refine draw_tree tabOk mixed [14] _ dtIF3 (by kernel_rfl) (by kernel_rfl) (by kernel_rfl) (List.Sublist.refl _) ?_) | (show Wp _ _ _ _ _ _ _; refine Wp.go tabOk rfl ?_) | (show @cmpK _ _ _; (first | refine cmpY ?_ | refine cmpN ?_ | (refine cmp_both ?_ ?_ <;> intro _))) | (show wrapK _ _ _; refine wrapA ?_) | (show leK _ _ _; refine leA ?_) | (show roomK _ _ _; refine roomA ?_) | (show ltK _ _ _; refine ltA ?_) | (show _ ∧ _; refine ⟨?_, ?_⟩) | (show keepK _ _ _ _ _; refine keepA ?_) | refine own_keep ?_ | refine ap_old ?_))
      all_goals (conv => whnf)
      all_goals exact ⟨o + 1, [], hlt, by omega, rfl, ⟨rfl, rfl, rfl, rfl, rfl, rfl, trivial⟩, ⟨by rw [hsnoc]; exact (by repeat (first | exact List.mem_cons_self | apply List.mem_cons_of_mem)), (by repeat (first | exact List.mem_cons_self | apply List.mem_cons_of_mem)), trivial⟩, fun _ _ h => h⟩
    · have hN : numAt n a.xs b.xs o = a.xs.getD o 0 := by unfold numAt; rw [if_neg (by omega), if_neg (by omega), if_neg (by omega), if_neg (by omega)]
      rw [hN] at hsnoc hbo
      have hcl := hal (by omega)
      obtain ⟨ua, hua⟩ := ha.base (by omega)
      have hur : ∀ (R : Nat → Prop) w', (baseA w).holds R w' → RowsI w' (some ua) 1 (ints a.xs) := fun R w' h => by rw [← hua]; exact rows_base h ha.rows
      (repeat' ((conv => whnf) <;> first | (show idxK _ _ _ _ _; refine idx_of _ o hua rfl (by omega) ?_) | (show roK _ _ _; refine ro_int hur (j := o) (by omega) ?_) | (show idxRowK _ _ _ _ _ _; (refine idxRow_of o rfl hlt (by rw [ints_length, gridI_length (by omega)]; exact Nat.le_refl _) ?_)) | (show rowStoreK _ _ _ _ _; refine gridI_store hlen hlt ?_) | (show drawK _ 15 _ _ _ _ _ _; refine draw_tree tabOk mixed [12] _ dtIF0 (by kernel_rfl) (by kernel_rfl) (by kernel_rfl) (List.Sublist.refl _) ?_) | (show drawK _ 17 _ _ _ _ _ _; refine draw_tree tabOk mixed [13] _ dtIF1 (by kernel_rfl) (by kernel_rfl) (by kernel_rfl) (List.Sublist.refl _) ?_) | (show drawK _ 19 _ _ _ _ _ _; refine draw_tree tabOk mixed [9] _ dtIF2 (by kernel_rfl) (by kernel_rfl) (by kernel_rfl) (List.Sublist.refl _) ?_) | (show drawK _ 10 _ _ _ _ _ _; refine draw_tree tabOk mixed [14] _ dtIF3 (by kernel_rfl) (by kernel_rfl) (by kernel_rfl) (List.Sublist.refl _) ?_) | (show Wp _ _ _ _ _ _ _; refine Wp.go tabOk rfl ?_) | (show @cmpK _ _ _; (first | refine cmpY ?_ | refine cmpN ?_ | (refine cmp_both ?_ ?_ <;> intro _))) | (show wrapK _ _ _; refine wrapA ?_) | (show leK _ _ _; refine leA ?_) | (show roomK _ _ _; refine roomA ?_) | (show ltK _ _ _; refine ltA ?_) | (show _ ∧ _; refine ⟨?_, ?_⟩) | (show keepK _ _ _ _ _; refine keepA ?_) | refine own_keep ?_ | refine ap_old ?_))
      conv => whnf
      exact ⟨o + 1, [], hlt, by omega, rfl, ⟨rfl, rfl, rfl, rfl, rfl, rfl, trivial⟩, ⟨by rw [hsnoc]; exact (by repeat (first | exact List.mem_cons_self | apply List.mem_cons_of_mem)), (by repeat (first | exact List.mem_cons_self | apply List.mem_cons_of_mem)), trivial⟩, fun _ _ h => h⟩
  · obtain rfl : o = cnt := by omega
    have hgr : gridI o (numsL n o a.xs b.xs) = numsL n o a.xs b.xs := by unfold gridI; rw [hlen, Nat.sub_self]; simp
    (repeat' ((conv => whnf) <;> first | (show drawK _ 15 _ _ _ _ _ _; refine draw_tree tabOk mixed [12] _ dtIF0 (by kernel_rfl) (by kernel_rfl) (by kernel_rfl) (List.Sublist.refl _) ?_) | (show drawK _ 17 _ _ _ _ _ _; refine draw_tree tabOk mixed [13] _ dtIF1 (by kernel_rfl) (by kernel_rfl) (by kernel_rfl) (List.Sublist.refl _) ?_) | (show drawK _ 19 _ _ _ _ _ _; refine draw_tree tabOk mixed [9] _ dtIF2 (by kernel_rfl) (by kernel_rfl) (by kernel_rfl) (List.Sublist.refl _) ?_) | (show drawK _ 10 _ _ _ _ _ _; refine draw_tree tabOk mixed [14] _ dtIF3 (by kernel_rfl) (by kernel_rfl) (by kernel_rfl) (List.Sublist.refl _) ?_) | (show Wp _ _ _ _ _ _ _; refine Wp.go tabOk rfl ?_) | (show @cmpK _ _ _; (first | refine cmpY ?_ | refine cmpN ?_ | (refine cmp_both ?_ ?_ <;> intro _))) | (show wrapK _ _ _; refine wrapA ?_) | (show leK _ _ _; refine leA ?_) | (show roomK _ _ _; refine roomA ?_) | (show ltK _ _ _; refine ltA ?_) | (show _ ∧ _; refine ⟨?_, ?_⟩) | (show keepK _ _ _ _ _; refine keepA ?_) | refine own_keep ?_ | refine ap_old ?_))
    conv => whnf
    refine ints_endG hgr (fun _ _ h => h) rfl (by repeat (first | exact List.mem_cons_self | apply List.mem_cons_of_mem)) (by rw [hlen]) (fun x hx => ?_) (by rw [hlen]; omega)
    obtain ⟨k, _, rfl⟩ := List.mem_map.1 hx
    have := hbd k
    unfold i64; omega
end Go.Proofs.Ytdmkdogakbipbaa

/- IG -/
namespace Go.Proofs.Ytdmkdogakbipbaa
open Go.SX Go.RowKit
def within (s : Sp) (l : List Int) : Prop := ∀ x ∈ l, s.1 ≤ x ∧ x ≤ s.2
theorem within_getD {s : Sp} {l : List Int} (h : within s l) {o : Nat} (ho : o < l.length) : s.1 ≤ l.getD o 0 ∧ l.getD o 0 ≤ s.2 := h _ (getD_mem ho)
theorem scale_within {d a1 a2 v : Int} (h1 : a1 ≤ v) (h2 : v ≤ a2) : foldI min [d * a1, d * a2] ≤ v * d ∧ v * d ≤ foldI max [d * a1, d * a2] := by
  have e : v * d = d * v := Int.mul_comm _ _
  have m1 : foldI min [d * a1, d * a2] = min (d * a1) (d * a2) := rfl
  have m2 : foldI max [d * a1, d * a2] = max (d * a1) (d * a2) := rfl
  rw [m1, m2, e]
  rcases (by omega : 0 ≤ d ∨ d ≤ 0) with hd | hd
  · have := Int.mul_le_mul_of_nonneg_left h1 hd
    have := Int.mul_le_mul_of_nonneg_left h2 hd
    omega
  · have := Int.mul_le_mul_of_nonpos_left hd h1
    have := Int.mul_le_mul_of_nonpos_left hd h2
    omega
theorem num_within {n : NodeV} {cnt o : Nat} {a b : List Int} {A B : Sp} (hk : n.kind = 2 ∨ n.kind = 6 ∨ n.kind = 7 ∨ n.kind = 8 ∨ n.kind = 9) (h2 : n.kind = 2 → n.data.xs.length = cnt) (ha : n.kind ≠ 2 → a.length = cnt) (hb : n.kind = 6 → b.length = cnt) (hA : within A a) (hB : within B b) (ho : o < cnt) :
    foldI min (endsL n A B) ≤ numAt n a b o ∧ numAt n a b o ≤ foldI max (endsL n A B) := by
  rcases hk with hk | hk | hk | hk | hk
  · have hN : numAt n a b o = n.data.xs.getD o 0 := if_pos hk
    have hL : endsL n A B = n.data.xs := by unfold endsL; rw [if_neg (by omega), if_pos hk]
    rw [hN, hL]
    have hm := getD_mem (xs := n.data.xs) (k := o) (by rw [h2 hk]; exact ho)
    exact ⟨foldI_min_le hm, foldI_max_ge hm⟩
  · have hN : numAt n a b o = a.getD o 0 + b.getD o 0 := by unfold numAt; rw [if_neg (by omega), if_pos hk]
    have hL : endsL n A B = [A.1 + B.1, A.2 + B.2] := by unfold endsL; rw [if_neg (by omega), if_neg (by omega), if_pos hk]
    rw [hN, hL]
    have h1 := within_getD hA (o := o) (by rw [ha (by omega)]; exact ho)
    have h2 := within_getD hB (o := o) (by rw [hb hk]; exact ho)
    have m1 : foldI min [A.1 + B.1, A.2 + B.2] = min (A.1 + B.1) (A.2 + B.2) := rfl
    have m2 : foldI max [A.1 + B.1, A.2 + B.2] = max (A.1 + B.1) (A.2 + B.2) := rfl
    rw [m1, m2]
    omega
  · have hN : numAt n a b o = a.getD o 0 * n.data.xs.getD 0 0 := by unfold numAt; rw [if_neg (by omega), if_neg (by omega), if_pos hk]
    have hL : endsL n A B = [n.data.xs.getD 0 0 * A.1, n.data.xs.getD 0 0 * A.2] := by unfold endsL; rw [if_neg (by omega), if_neg (by omega), if_neg (by omega), if_pos hk]
    rw [hN, hL]
    have h1 := within_getD hA (o := o) (by rw [ha (by omega)]; exact ho)
    exact scale_within h1.1 h1.2
  · have hN : numAt n a b o = powI n.data.xs (a.getD o 0) := by unfold numAt; rw [if_neg (by omega), if_neg (by omega), if_neg (by omega), if_pos hk]
    have hL : endsL n A B = powEnds n.data.xs A := by unfold endsL powEnds; rw [if_neg (by omega), if_neg (by omega), if_neg (by omega), if_neg (by omega), if_pos hk]
    rw [hN, hL]
    have h1 := within_getD hA (o := o) (by rw [ha (by omega)]; exact ho)
    exact pow_within h1.1 h1.2
  · have hN : numAt n a b o = a.getD o 0 := by unfold numAt; rw [if_neg (by omega), if_neg (by omega), if_neg (by omega), if_neg (by omega)]
    have hL : endsL n A B = [A.1, A.2] := by unfold endsL; rw [if_neg (by omega), if_neg (by omega), if_neg (by omega), if_neg (by omega), if_neg (by omega)]
    rw [hN, hL]
    have h1 := within_getD hA (o := o) (by rw [ha (by omega)]; exact ho)
    have m1 : foldI min [A.1, A.2] = min A.1 A.2 := rfl
    have m2 : foldI max [A.1, A.2] = max A.1 A.2 := rfl
    rw [m1, m2]
    omega
def gridK (n : Nat) (l : List IntsV) : List IntsV := l ++ List.replicate (n - l.length) nilI
theorem gridK_length {n : Nat} {l : List IntsV} (h : l.length ≤ n) : (gridK n l).length = n := by unfold gridK; simp; omega
theorem gridK_getD {n j : Nat} {l : List IntsV} (h : l.length ≤ n) (hj : j < n) : (shRows (gridK n l))[j]? = some [(l.getD j nilI).val] := by
  rw [shRows_get (by rw [gridK_length h]; exact hj)]
  have : (gridK n l)[j]'(by rw [gridK_length h]; exact hj) = l.getD j nilI := by
    unfold gridK
    rw [List.getElem_append]
    split
    · rename_i hlt; rw [List.getD_eq_getElem?_getD, List.getElem?_eq_getElem hlt]; rfl
    · rename_i hlt; rw [List.getD_eq_getElem?_getD, List.getElem?_eq_none (by omega)]; simp
  rw [this]
theorem gridK_store {n i : Nat} {l : List IntsV} {x : IntsV} {K : List (List Value) → Prop} (hl : l.length = i) (hi : i < n) (h : K (shRows (gridK n (l ++ [x])))) : rowStoreK (shRows (gridK n l)) i 0 [x.val] K := by
  subst hl
  refine rowStore_of _ (gridK_getD (Nat.le_of_lt hi) hi) (by show 0 + 1 ≤ 1; omega) ?_
  have e : (shRows (gridK n l)).set l.length (setFrom [(l.getD l.length nilI).val] 0 [x.val]) = shRows (gridK n (l ++ [x])) := by
    have e2 : setFrom [(l.getD l.length nilI).val] 0 [x.val] = [x.val] := rfl
    rw [e2]
    unfold gridK shRows
    obtain ⟨k, hk⟩ : ∃ k, n - l.length = k + 1 := ⟨n - l.length - 1, by omega⟩
    rw [hk, List.length_append, List.length_singleton, show n - (l.length + 1) = k by omega, List.replicate_succ]
    simp only [List.map_append, List.map_cons, List.map_nil]
    rw [List.set_append_right _ _ (by simp), List.length_map, Nat.sub_self, List.set_cons_zero]
    simp
  rw [e]; exact h
structure InV.ok (w : World) (v : ShapesV) : Prop where
  rows : RowsI w v.base 1 (shRows v.l)
  each : ∀ u ∈ v.l, u.ok w
  room : v.l.length ≤ v.cap
  few : v.l.length ≤ 1000000
theorem rowsI_one {w : World} {a : Addr} {cap : Nat} {xs : List (List Value)} (hc : xs.length ≤ cap) (h : RowsI w (some a) 1 xs) : RowsI w (some (if cap = 1 then a else a.add 1)) 1 (xs.drop 1) := by
  by_cases hx : xs.drop 1 = []
  · rw [hx]; exact .inl rfl
  have hl : 1 < xs.length := by
    rcases Nat.lt_or_ge 1 xs.length with h | h
    · exact h
    · exact absurd (List.drop_eq_nil_of_le h) hx
  rw [if_neg (by omega)]
  rcases h with h | ⟨a', ha, h⟩
  · rw [h] at hl; simp at hl
  obtain rfl : a = a' := by simpa using ha
  refine .inr ⟨_, rfl, fun i r hr j v hj => ?_⟩
  rw [List.getElem?_drop] at hr
  have := h (1 + i) r hr j v hj
  rw [add_add, show 1 + (i * 1 + j) = (1 + i) * 1 + j by omega]
  exact this
theorem slice_oneI {a : Addr} {len cap : Nat} {K : SV → Prop} (h1 : 1 ≤ len) (h2 : len ≤ cap) (h : K (.c (.slice (some (if cap = 1 then a else a.add 1)) (len - 1) (cap - 1)))) : sliceK (some a) len cap 1 (some 1) none none K := by
  rw [sliceK_def]
  refine ⟨1, len, cap, rfl, rfl, rfl, h1, h2, Nat.le_refl _, fun h => (by cases h), ?_⟩
  have e : (if cap = 1 then some a else (some a).map (·.add (1 * 1))) = some (if cap = 1 then a else a.add 1) := by
    split <;> rfl
  rw [e]
  exact h
def InV.rest (v : ShapesV) (a : Addr) : ShapesV := ⟨some (if v.cap = 1 then a else a.add 1), v.cap - 1, v.l.drop 1⟩
theorem InV.rest_ok {w : World} {v : ShapesV} {a : Addr} (h : InV.ok w v) (ha : v.base = some a) : InV.ok w (InV.rest v a) := by
  refine ⟨?_, fun u hu => h.each u (List.mem_of_mem_drop hu), by have := h.room; show (v.l.drop 1).length ≤ v.cap - 1; rw [List.length_drop]; omega, by have := h.few; show (v.l.drop 1).length ≤ _; rw [List.length_drop]; omega⟩
  have := h.rows
  rw [ha] at this
  have h2 := rowsI_one (cap := v.cap) (by rw [shRows_length]; exact h.room) this
  have e : shRows (v.l.drop 1) = (shRows v.l).drop 1 := by simp [shRows, List.map_drop]
  show RowsI w _ 1 (shRows (v.l.drop 1))
  rw [e]; exact h2
theorem InV.later {w w' : World} {R : Nat → Prop} {v : ShapesV} (h : InV.ok w v) (hb : (baseA w).holds R w') : InV.ok w' v := ⟨rows_base hb h.rows, fun u hu => (h.each u hu).later hb, h.room, h.few⟩
end Go.Proofs.Ytdmkdogakbipbaa

/- IO -/
namespace Go.Proofs.Ytdmkdogakbipbaa
abbrev dtIO0 : Go.SX.DT := (.take 0 (.alt 1 (.alt 2 (.alt 3 (.alt 4 (.one 5 (.alt 6 (.one 7 (.one 8 (.one 9 (.one 10 (.done))))) (.one 7 (.alt 6 (.one 8 (.one 9 (.one 10 (.done)))) (.one 8 (.one 6 (.one 9 (.one 10 (.done))))))))) (.one 5 (.alt 4 (.alt 6 (.one 7 (.one 8 (.one 9 (.one 10 (.done))))) (.one 7 (.alt 6 (.one 8 (.one 9 (.one 10 (.done)))) (.one 8 (.one 6 (.one 9 (.one 10 (.done)))))))) (.one 6 (.one 4 (.one 7 (.one 8 (.one 9 (.one 10 (.done)))))))))) (.one 5 (.alt 3 (.alt 4 (.alt 6 (.one 7 (.one 8 (.one 9 (.one 10 (.done))))) (.one 7 (.alt 6 (.one 8 (.one 9 (.one 10 (.done)))) (.one 8 (.one 6 (.one 9 (.one 10 (.done)))))))) (.one 6 (.one 4 (.one 7 (.one 8 (.one 9 (.one 10 (.done)))))))) (.one 6 (.one 3 (.one 4 (.one 7 (.one 8 (.one 9 (.one 10 (.done))))))))))) (.one 5 (.alt 2 (.alt 3 (.alt 4 (.alt 6 (.one 7 (.one 8 (.one 9 (.one 10 (.done))))) (.one 7 (.alt 6 (.one 8 (.one 9 (.one 10 (.done)))) (.one 8 (.one 6 (.one 9 (.one 10 (.done)))))))) (.one 6 (.one 4 (.one 7 (.one 8 (.one 9 (.one 10 (.done)))))))) (.one 6 (.one 3 (.one 4 (.one 7 (.one 8 (.one 9 (.one 10 (.done))))))))) (.one 6 (.one 2 (.one 3 (.one 4 (.one 7 (.one 8 (.one 9 (.one 10 (.done)))))))))))) (.one 5 (.alt 1 (.alt 2 (.alt 3 (.alt 4 (.alt 6 (.one 7 (.one 8 (.one 9 (.one 10 (.done))))) (.one 7 (.alt 6 (.one 8 (.one 9 (.one 10 (.done)))) (.one 8 (.one 6 (.one 9 (.one 10 (.done)))))))) (.one 6 (.one 4 (.one 7 (.one 8 (.one 9 (.one 10 (.done)))))))) (.one 6 (.one 3 (.one 4 (.one 7 (.one 8 (.one 9 (.one 10 (.done))))))))) (.one 6 (.one 2 (.one 3 (.one 4 (.one 7 (.one 8 (.one 9 (.one 10 (.done)))))))))) (.one 6 (.one 1 (.one 2 (.one 3 (.one 4 (.one 7 (.one 8 (.one 9 (.one 10 (.done))))))))))))))
open Go.SX Go.RowKit
def termsF (n : NodeV) (inV : Value) (c : Int) : Value :=
  if n.kind = 3 then .func (.func 75) #[placeV n (.slice none 0 0) .nilFunc c] #[]
  else if n.kind = 4 then .func (.func 76) #[placeV n inV .nilFunc c] #[]
  else .func (.func 77) #[placeV n inV .nilFunc c] #[]
set_option maxRecDepth 20000 in
set_option maxHeartbeats 1000000 in
theorem at_lin (w : World) (n : NodeV) (sv : ShapesV) (hs : sv.ok w) (i j : Nat) (s t : IntsV) (hi : sv.l[i]? = some s) (hj : sv.l[j]? = some t) (hja : n.a = j) (hk : n.kind = 3 ∨ n.kind = 4 ∨ n.kind = 5) : Calls Try.prog 44 #[n.valA, sv.val, .int .i64 i] w fun e w' => e = .returned (placeV n t.val (termsF n t.val (entries s.xs)) (entries s.xs)) ∧ Ext w w' := by
  obtain ⟨hlt, hsi⟩ := List.getElem?_eq_some_iff.1 hi
  obtain ⟨hltj, htj⟩ := List.getElem?_eq_some_iff.1 hj
  have hfew := hs.few
  obtain ⟨a, ha⟩ : ∃ a, sv.base = some a := base_some (j := i) hs.rows (by rw [shRows_length]; exact hlt)
  have hrow := shRows_get hlt
  rw [hsi] at hrow
  have hrowj := shRows_get hltj
  rw [htj] at hrowj
  have hss := hs.each s (hsi ▸ List.getElem_mem hlt)
  rcases hk with hk | hk | hk
  · have hT : termsF n t.val (entries s.xs) = .func (.func 75) #[placeV n (.slice none 0 0) .nilFunc (entries s.xs)] #[] := if_pos hk
    rw [hT]
    refine calls_of tab tabOk Try.func44 rfl rfl rfl [] (fun _ => ⟨none, 0⟩) [.agg [.c (.int .i64 n.kind), .c (.int .i64 n.a), .c (.int .i64 n.b), .c n.shape.val, .c (.int .i64 n.lo), .c (.int .i64 n.hi), .c (.int .i64 n.size), .c n.data.val, .c n.bias.val], .c sv.val, .c (.int .i64 i)] [] (baseA w) 0 rfl rfl (by show 3 ≤ _; decide) (abs_base w) ?_
    (repeat' ((conv => whnf) <;> first | (show idxK _ _ _ _ _; (first | refine idx_of a i ha rfl hlt ?_ | refine idx_of a j ha hja hltj ?_)) | (show roK _ _ _; (first | refine ro_row0 (fun R w' h => by rw [← ha]; exact rows_base h hs.rows) _ _ hrow rfl ?_ | refine ro_row0 (fun R w' h => by rw [← ha]; exact rows_base h hs.rows) _ _ hrowj rfl ?_)) | (show callK _ 59 _ _ _ _ _; refine call_pure (f := 59) Try.call59 _ (fun ρ w' hw => entries_ints w' s (holds_of_abs hw fun R h => hss.later h)) ?_) | (show drawK _ 4 _ _ _ _ _ _; refine draw_tree tabOk mixed [] [] dtIO0 (by kernel_rfl) (by kernel_rfl) (by kernel_rfl) (List.nil_sublist _) ?_) | (show keepK _ _ _ _ _; refine keepB ?_) | (show drawK _ 1 _ _ _ _ _ _; refine draw_tree tabOk mixed [8] _ dtIA0 (by kernel_rfl) (by kernel_rfl) (by kernel_rfl) (List.Sublist.refl _) ?_) | (show Wp _ _ _ _ _ _ _; refine Wp.go tabOk rfl ?_) | (show @cmpK _ _ _; (first | refine cmpY ?_ | refine cmpN ?_ | (refine cmp_both ?_ ?_ <;> intro _))) | (show wrapK _ _ _; refine wrapA ?_) | (show leK _ _ _; refine leA ?_) | (show roomK _ _ _; refine roomA ?_) | (show ltK _ _ _; refine ltA ?_) | (show _ ∧ _; refine ⟨?_, ?_⟩) | (show keepK _ _ _ _ _; refine keepA ?_) | refine own_keep ?_ | refine ap_old ?_))
    all_goals (conv => whnf)
    all_goals exact ends_of (fun _ _ h => h) (fun _ => rfl) rfl
  · have hT : termsF n t.val (entries s.xs) = .func (.func 76) #[placeV n t.val .nilFunc (entries s.xs)] #[] := by unfold termsF; rw [if_neg (by omega), if_pos hk]
    rw [hT]
    refine calls_of tab tabOk Try.func44 rfl rfl rfl [] (fun _ => ⟨none, 0⟩) [.agg [.c (.int .i64 n.kind), .c (.int .i64 n.a), .c (.int .i64 n.b), .c n.shape.val, .c (.int .i64 n.lo), .c (.int .i64 n.hi), .c (.int .i64 n.size), .c n.data.val, .c n.bias.val], .c sv.val, .c (.int .i64 i)] [] (baseA w) 0 rfl rfl (by show 3 ≤ _; decide) (abs_base w) ?_
    (repeat' ((conv => whnf) <;> first | (show idxK _ _ _ _ _; (first | refine idx_of a i ha rfl hlt ?_ | refine idx_of a j ha hja hltj ?_)) | (show roK _ _ _; (first | refine ro_row0 (fun R w' h => by rw [← ha]; exact rows_base h hs.rows) _ _ hrow rfl ?_ | refine ro_row0 (fun R w' h => by rw [← ha]; exact rows_base h hs.rows) _ _ hrowj rfl ?_)) | (show callK _ 59 _ _ _ _ _; refine call_pure (f := 59) Try.call59 _ (fun ρ w' hw => entries_ints w' s (holds_of_abs hw fun R h => hss.later h)) ?_) | (show keepK _ _ _ _ _; refine keepB ?_) | (show drawK _ 1 _ _ _ _ _ _; refine draw_tree tabOk mixed [8] _ dtIA0 (by kernel_rfl) (by kernel_rfl) (by kernel_rfl) (List.Sublist.refl _) ?_) | (show drawK _ 4 _ _ _ _ _ _; refine draw_tree tabOk mixed [8, 10] _ dtIA1 (by kernel_rfl) (by kernel_rfl) (by kernel_rfl) (List.Sublist.refl _) ?_) | (show Wp _ _ _ _ _ _ _; refine Wp.go tabOk rfl ?_) | (show @cmpK _ _ _; (first | refine cmpY ?_ | refine cmpN ?_ | (refine cmp_both ?_ ?_ <;> intro _))) | (show wrapK _ _ _; refine wrapA ?_) | (show leK _ _ _; refine leA ?_) | (show roomK _ _ _; refine roomA ?_) | (show ltK _ _ _; refine ltA ?_) | (show _ ∧ _; refine ⟨?_, ?_⟩) | (show keepK _ _ _ _ _; refine keepA ?_) | refine own_keep ?_ | refine ap_old ?_))
    all_goals (conv => whnf)
    all_goals exact ends_of (fun _ _ h => h) (fun _ => rfl) rfl
  · have hT : termsF n t.val (entries s.xs) = .func (.func 77) #[placeV n t.val .nilFunc (entries s.xs)] #[] := by unfold termsF; rw [if_neg (by omega), if_neg (by omega)]
    rw [hT]
    refine calls_of tab tabOk Try.func44 rfl rfl rfl [] (fun _ => ⟨none, 0⟩) [.agg [.c (.int .i64 n.kind), .c (.int .i64 n.a), .c (.int .i64 n.b), .c n.shape.val, .c (.int .i64 n.lo), .c (.int .i64 n.hi), .c (.int .i64 n.size), .c n.data.val, .c n.bias.val], .c sv.val, .c (.int .i64 i)] [] (baseA w) 0 rfl rfl (by show 3 ≤ _; decide) (abs_base w) ?_
    (repeat' ((conv => whnf) <;> first | (show idxK _ _ _ _ _; (first | refine idx_of a i ha rfl hlt ?_ | refine idx_of a j ha hja hltj ?_)) | (show roK _ _ _; (first | refine ro_row0 (fun R w' h => by rw [← ha]; exact rows_base h hs.rows) _ _ hrow rfl ?_ | refine ro_row0 (fun R w' h => by rw [← ha]; exact rows_base h hs.rows) _ _ hrowj rfl ?_)) | (show callK _ 59 _ _ _ _ _; refine call_pure (f := 59) Try.call59 _ (fun ρ w' hw => entries_ints w' s (holds_of_abs hw fun R h => hss.later h)) ?_) | (show keepK _ _ _ _ _; refine keepB ?_) | (show drawK _ 1 _ _ _ _ _ _; refine draw_tree tabOk mixed [8] _ dtIA0 (by kernel_rfl) (by kernel_rfl) (by kernel_rfl) (List.Sublist.refl _) ?_) | (show drawK _ 4 _ _ _ _ _ _; refine draw_tree tabOk mixed [8, 10] _ dtIA1 (by kernel_rfl) (by kernel_rfl) (by kernel_rfl) (List.Sublist.refl _) ?_) | (show Wp _ _ _ _ _ _ _; refine Wp.go tabOk rfl ?_) | (show @cmpK _ _ _; (first | refine cmpY ?_ | refine cmpN ?_ | (refine cmp_both ?_ ?_ <;> intro _))) | (show wrapK _ _ _; refine wrapA ?_) | (show leK _ _ _; refine leA ?_) | (show roomK _ _ _; refine roomA ?_) | (show ltK _ _ _; refine ltA ?_) | (show _ ∧ _; refine ⟨?_, ?_⟩) | (show keepK _ _ _ _ _; refine keepA ?_) | refine own_keep ?_ | refine ap_old ?_))
    all_goals (conv => whnf)
    all_goals exact ends_of (fun _ _ h => h) (fun _ => rfl) rfl
end Go.Proofs.Ytdmkdogakbipbaa

/- IP -/
namespace Go.Proofs.Ytdmkdogakbipbaa
open Go.SX Go.RowKit
theorem wrap_isI {z : Int} (y : Int) {K : Int → Prop} (h : z = y) (h1 : -9223372036854775808 ≤ y) (h2 : y ≤ 9223372036854775807) (hk : K y) : wrapK .i64 z K := by
  subst h; exact wrap_i64 h1 h2 hk
abbrev TermsPost (w : World) (l : List Sp) : Ending → World → Prop := fun e w' => ∃ v, e = .returned v ∧ Ext w w' ∧ NewRows w w' v 2 110 (spRows l)
theorem terms_end {B : Base} {i m : Nat} {H : Heap} {S : Asn} {nx : Nat} {w : World} {l l' : List Sp} (hl' : l' = l) (hb : ∀ R w', S.holds R w' → (baseA B.w0).holds R w') (hw0 : B.w0 = w) (he : (i, Ent.rows (spRows l') 2 110) ∈ H) (hm : m = l.length) : finK B (.os i m) H S nx (TermsPost w l) := by
  subst hw0 hm hl'
  refine fin_of fun ρ w' hw => ⟨_, rfl, ext_of_abs hw hb, ?_⟩
  have hn := new_of_abs hw hb he
  rw [spRows_length] at hn
  exact hn
def denseT (n : NodeV) (o : Nat) (size : Nat) : List Sp := (List.range size).map fun i => (n.data.xs.getD (o * size + i) 0, (i : Int))
theorem denseT_snoc (n : NodeV) (o size i : Nat) : (List.range (i + 1)).map (fun i => ((n.data.xs.getD (o * size + i) 0, (i : Int)) : Sp)) = (List.range i).map (fun i => ((n.data.xs.getD (o * size + i) 0, (i : Int)) : Sp)) ++ [(n.data.xs.getD (o * size + i) 0, (i : Int))] := by
  rw [List.range_succ, List.map_append]; rfl
set_option maxRecDepth 20000 in
theorem dense_any (w : World) (n : NodeV) (hd : n.data.ok w) (hbl : 1 ≤ n.bias.xs.length ∧ n.bias.xs.length ≤ 64) (inV fnV : Value) (c : Int) (o size : Nat) (hs : size ≤ 64) (hdl : n.data.xs.length = n.bias.xs.length * size) (ho : o < n.bias.xs.length) : Calls Try.prog 75 #[placeV n inV fnV c, .int .i64 o] w (TermsPost w (denseT n o size)) := by
  have hprod : n.bias.xs.length * size ≤ 64 * 64 := Nat.mul_le_mul hbl.2 hs
  have hdiv : (n.data.xs.length : Int) / n.bias.xs.length = size := by
    rw [hdl, Int.natCast_mul]
    exact Int.mul_ediv_cancel_left _ (by omega)
  have hos : o * size + size ≤ n.data.xs.length := by
    have := Nat.mul_le_mul_right size (show o + 1 ≤ n.bias.xs.length by omega)
    rw [Nat.succ_mul] at this
    omega
  refine calls_of tab tabOk Try.func75 rfl rfl rfl [] (fun _ => ⟨none, 0⟩) [.agg [.c (.int .i64 n.kind), .c (.int .i64 n.a), .c (.int .i64 n.b), .c n.shape.val, .c (.int .i64 n.lo), .c (.int .i64 n.hi), .c (.int .i64 n.size), .c n.data.val, .c n.bias.val, .c inV, .c fnV, .c (.int .i64 c)], .c (.int .i64 o)] [] (baseA w) 0 rfl rfl (by show 2 ≤ _; decide) (abs_base w) ?_
  (repeat' ((conv => whnf) <;> first | (show divK _ _ _ _; refine div_pos rfl (by omega) (by omega) (by omega) ?_) | (show Wp _ _ _ _ _ _ _; refine Wp.go tabOk rfl ?_) | (show @cmpK _ _ _; (first | refine cmpY ?_ | refine cmpN ?_ | (refine cmp_both ?_ ?_ <;> intro _))) | (show wrapK _ _ _; refine wrapA ?_) | (show leK _ _ _; refine leA ?_) | (show roomK _ _ _; refine roomA ?_) | (show ltK _ _ _; refine ltA ?_) | (show _ ∧ _; refine ⟨?_, ?_⟩) | (show keepK _ _ _ _ _; refine keepA ?_) | refine own_keep ?_ | refine ap_old ?_))
  rw [hdiv]
  (repeat' ((conv => whnf) <;> first | (show makeK _ _ _ _; (refine make_of size rfl rfl (by show 16 * _ ≤ _; omega) (by omega) ?_)) | (show Wp _ _ _ _ _ _ _; refine Wp.go tabOk rfl ?_) | (show @cmpK _ _ _; (first | refine cmpY ?_ | refine cmpN ?_ | (refine cmp_both ?_ ?_ <;> intro _))) | (show wrapK _ _ _; refine wrapA ?_) | (show leK _ _ _; refine leA ?_) | (show roomK _ _ _; refine roomA ?_) | (show ltK _ _ _; refine ltA ?_) | (show _ ∧ _; refine ⟨?_, ?_⟩) | (show keepK _ _ _ _ _; refine keepA ?_) | refine own_keep ?_ | refine ap_old ?_))
  refine Wp.loop (σ := Nat) 2 (fun i => [(1, .c (.int .i64 o)), (2, .lp 0 0 0 0), (5, .c (.int .i64 size)), (6, .os 1 size), (20, .c (.int .i64 size)), (21, .c (.int .i64 i))]) (fun i => [(1, .rows (spRows (gridS size ((List.range i).map fun i => ((n.data.xs.getD (o * size + i) 0, (i : Int)) : Sp)))) 2 110), (0, .box [.c (.int .i64 n.kind), .c (.int .i64 n.a), .c (.int .i64 n.b), .c n.shape.val, .c (.int .i64 n.lo), .c (.int .i64 n.hi), .c (.int .i64 n.size), .c n.data.val, .c n.bias.val, .c inV, .c fnV, .c (.int .i64 c)] 75)]) (fun _ => baseA w)
    (fun i => i ≤ size) (fun i => size - i) 0 [] (by decide) (fun s => ⟨rfl, rfl⟩) (Nat.zero_le _) ⟨rfl, ⟨rfl, rfl, rfl, rfl, rfl, rfl, trivial⟩, ⟨?_, (by repeat (first | exact List.mem_cons_self | apply List.mem_cons_of_mem)), trivial⟩, fun _ _ h => h⟩ ?_
  · have : spRows (gridS size ((List.range 0).map fun i => ((n.data.xs.getD (o * size + i) 0, (i : Int)) : Sp))) = List.replicate size [Value.int .i64 0, .int .i64 0] := by simp [spRows, gridS]
    show (1, Ent.rows (spRows (gridS size ((List.range 0).map fun i => ((n.data.xs.getD (o * size + i) 0, (i : Int)) : Sp)))) 2 110) ∈ _
    rw [this]
    exact (by repeat (first | exact List.mem_cons_self | apply List.mem_cons_of_mem))
  rintro i hi
  have hil : ((List.range i).map fun i => ((n.data.xs.getD (o * size + i) 0, (i : Int)) : Sp)).length = i := by simp
  by_cases hlt : i < size
  · have hsn := denseT_snoc n o size i
    obtain ⟨ua, hua⟩ := hd.base (by omega)
    have hur : ∀ (R : Nat → Prop) w', (baseA w).holds R w' → RowsI w' (some ua) 1 (ints n.data.xs) := fun R w' h => by rw [← hua]; exact rows_base h hd.rows
    have hm : (o : Int) * size = ((o * size : Nat) : Int) := by rw [Int.natCast_mul]
    obtain ⟨q, hq⟩ : ∃ q, o * size + i = q := ⟨_, rfl⟩
    rw [hq] at hsn
    (repeat' ((conv => whnf) <;> first | (show idxK _ _ _ _ _; refine idx_of _ q hua rfl (by omega) ?_) | (show roK _ _ _; refine ro_int hur (j := q) (by omega) ?_) | (show wrapK _ _ _; (first | refine wrap_isI ((o * size : Nat) : Int) hm (by omega) (by omega) ?_ | refine wrap_isI (q : Int) (by omega) (by omega) (by omega) ?_ | refine wrap_isI ((i + 1 : Nat) : Int) (by omega) (by omega) (by omega) ?_)) | (show idxRowK _ _ _ _ _ _; (refine idxRow_of i rfl hlt (by rw [spRows_length, gridS_length (by omega)]; exact Nat.le_refl _) ?_)) | (show rowStoreK _ _ _ _ _; refine gridS_store hil hlt ?_) | (show Wp _ _ _ _ _ _ _; refine Wp.go tabOk rfl ?_) | (show @cmpK _ _ _; (first | refine cmpY ?_ | refine cmpN ?_ | (refine cmp_both ?_ ?_ <;> intro _))) | (show wrapK _ _ _; refine wrapA ?_) | (show leK _ _ _; refine leA ?_) | (show roomK _ _ _; refine roomA ?_) | (show ltK _ _ _; refine ltA ?_) | (show _ ∧ _; refine ⟨?_, ?_⟩) | (show keepK _ _ _ _ _; refine keepA ?_) | refine own_keep ?_ | refine ap_old ?_))
    all_goals (conv => whnf)
    all_goals exact ⟨i + 1, [], hlt, by omega, rfl, ⟨rfl, rfl, rfl, rfl, rfl, rfl, trivial⟩, ⟨by rw [hsn]; exact (by repeat (first | exact List.mem_cons_self | apply List.mem_cons_of_mem)), (by repeat (first | exact List.mem_cons_self | apply List.mem_cons_of_mem)), trivial⟩, fun _ _ h => h⟩
  · obtain rfl : i = size := by omega
    have hgr : gridS i ((List.range i).map fun k => ((n.data.xs.getD (o * i + k) 0, (k : Int)) : Sp)) = denseT n o i := by unfold gridS denseT; rw [List.length_map, List.length_range, Nat.sub_self]; simp
    (repeat' ((conv => whnf) <;> first | (show Wp _ _ _ _ _ _ _; refine Wp.go tabOk rfl ?_) | (show @cmpK _ _ _; (first | refine cmpY ?_ | refine cmpN ?_ | (refine cmp_both ?_ ?_ <;> intro _))) | (show wrapK _ _ _; refine wrapA ?_) | (show leK _ _ _; refine leA ?_) | (show roomK _ _ _; refine roomA ?_) | (show ltK _ _ _; refine ltA ?_) | (show _ ∧ _; refine ⟨?_, ?_⟩) | (show keepK _ _ _ _ _; refine keepA ?_) | refine own_keep ?_ | refine ap_old ?_))
    conv => whnf
    exact terms_end hgr (fun _ _ h => h) rfl (by repeat (first | exact List.mem_cons_self | apply List.mem_cons_of_mem)) (by simp [denseT])
end Go.Proofs.Ytdmkdogakbipbaa

/- IQ -/
namespace Go.Proofs.Ytdmkdogakbipbaa
abbrev dtIQ0 : Go.SX.DT := (.take 0 (.take 1 (.take 2 (.take 3 (.take 4 (.take 5 (.take 6 (.take 7 (.take 8 (.take 9 (.take 10 (.take 11 (.take 12 (.take 13 (.take 14 (.take 15 (.take 16 (.take 17 (.take 18 (.take 19 (.take 20 (.take 21 (.take 22 (.take 23 (.take 24 (.take 25 (.take 26 (.take 27 (.take 28 (.take 29 (.take 30 (.take 31 (.take 32 (.take 33 (.take 34 (.take 35 (.take 36 (.take 37 (.take 38 (.one 39 (.one 40 (.take 41 (.done)))))))))))))))))))))))))))))))))))))))))))
open Go.SX Go.RowKit
def convTerm (d : List Int) (k1 k2 k3 i1 i2 o : Int) (i : Nat) : Sp :=
  (d.getD (o / (i2 - k3 + 1) / (i1 - k2 + 1) * k1 * k2 * k3 + i).toNat 0, ((i : Int) / k3 / k2 * i1 + o / (i2 - k3 + 1) % (i1 - k2 + 1) + (i : Int) / k3 % k2) * i2 + o % (i2 - k3 + 1) + (i : Int) % k3)
def convT (d : List Int) (k1 k2 k3 i1 i2 o : Int) : List Sp := (List.range (k1 * k2 * k3).toNat).map (convTerm d k1 k2 k3 i1 i2 o)
structure ConvOk (n : NodeV) (t : IntsV) (k0 k1 k2 k3 i1 i2 o : Int) : Prop where
  h_shape : n.shape.xs = [k0, k1, k2, k3]
  h_inn : ∃ i0, t.xs = [i0, i1, i2]
  h_k1 : 1 ≤ k1 ∧ k1 ≤ 64
  h_k2 : 1 ≤ k2 ∧ k2 ≤ i1
  h_k3 : 1 ≤ k3 ∧ k3 ≤ i2
  h_i1 : i1 ≤ 64
  h_i2 : i2 ≤ 64
  h_data : (n.data.xs.length : Int) = k0 * k1 * k2 * k3
  h_k0 : k0 ≤ 64
  h_o : 0 ≤ o ∧ o ≤ 64
  h_k : o / (i2 - k3 + 1) / (i1 - k2 + 1) < k0
theorem sp_snoc (l : List Sp) (s : Sp) {i m : Nat} {T : TypeId} {H : Heap} (hm : m = l.length) : (i, Ent.rows (spRows (l ++ [s])) 2 T) ∈ (i, Ent.rows (List.take m (spRows l) ++ [[.int .i64 s.1, .int .i64 s.2]]) 2 T) :: H := by
  subst hm
  rw [show spRows (l ++ [s]) = List.take l.length (spRows l) ++ [[.int .i64 s.1, .int .i64 s.2]] by rw [List.take_of_length_le (by rw [spRows_length]; exact Nat.le_refl _)]; simp [spRows]]
  exact List.mem_cons_self
theorem div_bd {x y : Int} (hx : 0 ≤ x) (hy : 0 < y) : 0 ≤ x / y ∧ x / y ≤ x ∧ 0 ≤ x % y ∧ x % y < y := ⟨Int.ediv_nonneg hx (by omega), Int.ediv_le_self y hx, Int.emod_nonneg x (by omega), Int.emod_lt_of_pos x hy⟩
set_option maxRecDepth 20000 in
set_option maxHeartbeats 2000000 in
theorem conv_any (w : World) (n : NodeV) (t : IntsV) (hd : n.data.ok w) (hsh : n.shape.ok w) (ht : t.ok w) (fnV : Value) (c k0 k1 k2 k3 i1 i2 o : Int) (h : ConvOk n t k0 k1 k2 k3 i1 i2 o) : Calls Try.prog 76 #[placeV n t.val fnV c, .int .i64 o] w (TermsPost w (convT n.data.xs k1 k2 k3 i1 i2 o)) := by
  obtain ⟨hs, ⟨i0, hi⟩, b1, b2, b3, bi1, bi2, hdl, b0, bo, bk⟩ := h
  obtain ⟨us, hus⟩ := hsh.base (by rw [hs]; simp)
  obtain ⟨ut, hut⟩ := ht.base (by rw [hi]; simp)
  have hsr : ∀ (R : Nat → Prop) w', (baseA w).holds R w' → RowsI w' (some us) 1 (ints [k0, k1, k2, k3]) := fun R w' h => by rw [← hus, ← hs]; exact rows_base h hsh.rows
  have htr : ∀ (R : Nat → Prop) w', (baseA w).holds R w' → RowsI w' (some ut) 1 (ints [i0, i1, i2]) := fun R w' h => by rw [← hut, ← hi]; exact rows_base h ht.rows
  have hsl : n.shape.xs.length = 4 := by rw [hs]; rfl
  have htl : t.xs.length = 3 := by rw [hi]; rfl
  have hW : 0 < i2 - k3 + 1 := by omega
  have hH : 0 < i1 - k2 + 1 := by omega
  obtain ⟨d1, d2, d3, d4⟩ := div_bd bo.1 hW
  obtain ⟨d5, d6, d7, d8⟩ := div_bd d1 hH
  have m12 := mul_bd (x := k1) (y := k2) (A := 64) (B := 64) (by omega) (by omega)
  have m123 := mul_bd (x := k1 * k2) (y := k3) (A := 64 * 64) (B := 64) m12 (by omega)
  have n12 := Int.mul_pos (show 0 < k1 by omega) (show 0 < k2 by omega)
  have n123 := Int.mul_pos n12 (show 0 < k3 by omega)
  obtain ⟨Q, hQ⟩ : ∃ Q : Nat, k1 * k2 * k3 = Q := ⟨(k1 * k2 * k3).toNat, by omega⟩
  have hcT : convT n.data.xs k1 k2 k3 i1 i2 o = (List.range Q).map (convTerm n.data.xs k1 k2 k3 i1 i2 o) := by unfold convT; rw [hQ]; rfl
  rw [hcT]
  refine calls_of tab tabOk Try.func76 rfl rfl rfl [] (fun _ => ⟨none, 0⟩) [.agg [.c (.int .i64 n.kind), .c (.int .i64 n.a), .c (.int .i64 n.b), .c n.shape.val, .c (.int .i64 n.lo), .c (.int .i64 n.hi), .c (.int .i64 n.size), .c n.data.val, .c n.bias.val, .c t.val, .c fnV, .c (.int .i64 c)], .c (.int .i64 o)] [] (baseA w) 0 rfl rfl (by show 2 ≤ _; decide) (abs_base w) ?_
  (repeat' ((conv => whnf) <;> first | (show idxK _ _ _ _ _; (first | refine idx_of us 1 hus rfl (by rw [hsl]; decide) ?_ | refine idx_of us 2 hus rfl (by rw [hsl]; decide) ?_ | refine idx_of us 3 hus rfl (by rw [hsl]; decide) ?_ | refine idx_of ut 1 hut rfl (by rw [htl]; decide) ?_ | refine idx_of ut 2 hut rfl (by rw [htl]; decide) ?_)) | (show roK _ _ _; (first | refine ro_row0 hsr [.int .i64 k1] (.int .i64 k1) (j := 1) rfl rfl ?_ | refine ro_row0 hsr [.int .i64 k2] (.int .i64 k2) (j := 2) rfl rfl ?_ | refine ro_row0 hsr [.int .i64 k3] (.int .i64 k3) (j := 3) rfl rfl ?_ | refine ro_row0 htr [.int .i64 i1] (.int .i64 i1) (j := 1) rfl rfl ?_ | refine ro_row0 htr [.int .i64 i2] (.int .i64 i2) (j := 2) rfl rfl ?_)) | (show remK _ _ _; refine rem_pos (by omega) (by omega) ?_) | (show divK _ _ _ _; refine div_pos rfl (by omega) (by omega) (by omega) ?_) | (show drawK _ 10 _ _ _ _ _ _; refine draw_tree tabOk mixed [] _ dtIQ0 (by kernel_rfl) (by kernel_rfl) (by kernel_rfl) (List.Sublist.refl _) ?_) | (show drawK _ _ _ _ _ _ _ _; refine draw_quiet tabOk mixed (by kernel_rfl) ?_) | (show Wp _ _ _ _ _ _ _; refine Wp.go tabOk rfl ?_) | (show @cmpK _ _ _; (first | refine cmpY ?_ | refine cmpN ?_ | (refine cmp_both ?_ ?_ <;> intro _))) | (show wrapK _ _ _; refine wrapA ?_) | (show leK _ _ _; refine leA ?_) | (show roomK _ _ _; refine roomA ?_) | (show ltK _ _ _; refine ltA ?_) | (show _ ∧ _; refine ⟨?_, ?_⟩) | (show keepK _ _ _ _ _; refine keepA ?_) | refine own_keep ?_ | refine ap_old ?_))
  rw [hQ]
  have mK1 := mul_bd (x := o / (i2 - k3 + 1) / (i1 - k2 + 1)) (y := k1) (A := 64) (B := 64) (by omega) (by omega)
  have mK2 := mul_bd (x := o / (i2 - k3 + 1) / (i1 - k2 + 1) * k1) (y := k2) (A := 64 * 64) (B := 64) mK1 (by omega)
  have mK3 := mul_bd (x := o / (i2 - k3 + 1) / (i1 - k2 + 1) * k1 * k2) (y := k3) (A := 64 * 64 * 64) (B := 64) mK2 (by omega)
  have e1 : o / (i2 - k3 + 1) / (i1 - k2 + 1) * k1 * k2 * k3 = o / (i2 - k3 + 1) / (i1 - k2 + 1) * (Q : Int) := by rw [← hQ]; grind
  have e2 : k0 * k1 * k2 * k3 = k0 * (Q : Int) := by rw [← hQ]; grind
  have e3 : (o / (i2 - k3 + 1) / (i1 - k2 + 1) + 1) * (Q : Int) ≤ k0 * (Q : Int) := Int.mul_le_mul_of_nonneg_right (by omega) (by omega)
  rw [Int.add_mul, Int.one_mul] at e3
  have e4 : 0 ≤ o / (i2 - k3 + 1) / (i1 - k2 + 1) * (Q : Int) := Int.mul_nonneg d5 (by omega)
  refine Wp.loop (σ := Nat × Nat) 2 (fun ⟨i, m⟩ => [(2, .lp 0 0 0 0), (5, .c (.int .i64 k2)), (6, .c (.int .i64 k3)), (9, .c (.int .i64 (o % (i2 - k3 + 1)))), (10, .c (.int .i64 (o / (i2 - k3 + 1) % (i1 - k2 + 1)))), (11, .c (.int .i64 (o / (i2 - k3 + 1) / (i1 - k2 + 1)))), (12, .os 1 m), (62, .c (.int .i64 Q)), (63, .c (.int .i64 i))]) (fun ⟨i, m⟩ => [(1, .rows (spRows ((List.range i).map (convTerm n.data.xs k1 k2 k3 i1 i2 o))) 2 110), (0, .box [.c (.int .i64 n.kind), .c (.int .i64 n.a), .c (.int .i64 n.b), .c n.shape.val, .c (.int .i64 n.lo), .c (.int .i64 n.hi), .c (.int .i64 n.size), .c n.data.val, .c n.bias.val, .c t.val, .c fnV, .c (.int .i64 c)] 75)]) (fun _ => baseA w)
    (fun ⟨i, m⟩ => i ≤ Q ∧ m = i) (fun s => Q - s.1) (0, 0) [(1, none)] (by decide) (fun s => ⟨rfl, rfl⟩) ⟨Nat.zero_le _, rfl⟩ ⟨rfl, ⟨rfl, rfl, rfl, rfl, rfl, rfl, rfl, rfl, rfl, trivial⟩, ⟨rfl, (by repeat (first | exact List.mem_cons_self | apply List.mem_cons_of_mem)), trivial⟩, fun _ _ h => h⟩ ?_
  rintro ⟨i, m⟩ ⟨hiQ, hmi⟩
  subst hmi
  have hil : ((List.range m).map (convTerm n.data.xs k1 k2 k3 i1 i2 o)).length = m := by simp
  by_cases hlt : m < Q
  · have hsn : (List.range (m + 1)).map (convTerm n.data.xs k1 k2 k3 i1 i2 o) = (List.range m).map (convTerm n.data.xs k1 k2 k3 i1 i2 o) ++ [convTerm n.data.xs k1 k2 k3 i1 i2 o m] := by rw [List.range_succ, List.map_append]; rfl
    obtain ⟨c1, c2, c3, c4⟩ := div_bd (x := (m : Int)) (y := k3) (by omega) (by omega)
    obtain ⟨c5, c6, c7, c8⟩ := div_bd (x := (m : Int) / k3) (y := k2) c1 (by omega)
    have p1 := mul_bd (x := (m : Int) / k3 / k2) (y := i1) (A := 262144) (B := 64) (by omega) (by omega)
    have p2 := mul_bd (x := (m : Int) / k3 / k2 * i1 + o / (i2 - k3 + 1) % (i1 - k2 + 1) + (m : Int) / k3 % k2) (y := i2) (A := 16777400) (B := 64) (by omega) (by omega)
    obtain ⟨ud, hud⟩ := hd.base (by omega)
    have hdr : ∀ (R : Nat → Prop) w', (baseA w).holds R w' → RowsI w' (some ud) 1 (ints n.data.xs) := fun R w' h => by rw [← hud]; exact rows_base h hd.rows
    (repeat' ((conv => whnf) <;> first | (show keepK _ _ _ _ _; (refine keep_of (by repeat (first | exact List.Sublist.refl _ | exact List.nil_sublist _ | apply List.Sublist.cons_cons | apply List.Sublist.cons)) (fun _ _ h => h) ?_)) | (show drawK _ 10 _ _ _ _ _ _; (refine draw_tree tabOk mixed [] [(0, .box [.c (.int .i64 n.kind), .c (.int .i64 n.a), .c (.int .i64 n.b), .c n.shape.val, .c (.int .i64 n.lo), .c (.int .i64 n.hi), .c (.int .i64 n.size), .c n.data.val, .c n.bias.val, .c t.val, .c fnV, .c (.int .i64 c)] 75)] (.take 0 (.take 1 (.take 2 (.take 3 (.take 4 (.take 5 (.take 6 (.take 7 (.take 8 (.take 9 (.take 10 (.take 11 (.take 12 (.take 13 (.take 14 (.take 15 (.take 16 (.take 17 (.take 18 (.take 19 (.take 20 (.take 21 (.take 22 (.take 23 (.take 24 (.take 25 (.take 26 (.take 27 (.take 28 (.take 29 (.take 30 (.take 31 (.take 32 (.take 33 (.take 34 (.take 35 (.take 36 (.take 37 (.take 38 (.one 39 (.one 40 (.take 41 (.done))))))))))))))))))))))))))))))))))))))))))) (by kernel_rfl) (by kernel_rfl) (by kernel_rfl) (by repeat (first | exact List.Sublist.refl _ | exact List.nil_sublist _ | apply List.Sublist.cons_cons | apply List.Sublist.cons)) ?_)) | (show idxK _ _ _ _ _; (first | refine idx_of us 1 hus rfl (by rw [hsl]; decide) ?_ | refine idx_of us 2 hus rfl (by rw [hsl]; decide) ?_ | refine idx_of us 3 hus rfl (by rw [hsl]; decide) ?_ | refine idx_of ut 1 hut rfl (by rw [htl]; decide) ?_ | refine idx_of ut 2 hut rfl (by rw [htl]; decide) ?_)) | (show roK _ _ _; (first | refine ro_row0 hsr [.int .i64 k1] (.int .i64 k1) (j := 1) rfl rfl ?_ | refine ro_row0 hsr [.int .i64 k2] (.int .i64 k2) (j := 2) rfl rfl ?_ | refine ro_row0 hsr [.int .i64 k3] (.int .i64 k3) (j := 3) rfl rfl ?_ | refine ro_row0 htr [.int .i64 i1] (.int .i64 i1) (j := 1) rfl rfl ?_ | refine ro_row0 htr [.int .i64 i2] (.int .i64 i2) (j := 2) rfl rfl ?_)) | (show idxK _ _ _ _ _; refine idx_z hud (by omega) (by omega) ?_) | (show roK _ _ _; refine ro_int hdr (j := (o / (i2 - k3 + 1) / (i1 - k2 + 1) * k1 * k2 * k3 + (m : Int)).toNat) (by omega) ?_) | (show remK _ _ _; refine rem_pos (by omega) (by omega) ?_) | (show divK _ _ _ _; refine div_pos rfl (by omega) (by omega) (by omega) ?_) | (show leK _ _ _; (refine le_of (by rw [spRows_length, hil]; exact Nat.le_refl _) ?_)) | (show roomK _ _ _; (refine room_of (by show (m + 1) * 16 ≤ 140737488355328; omega) ?_)) | (show drawK _ _ _ _ _ _ _ _; refine draw_quiet tabOk mixed (by kernel_rfl) ?_) | (show Wp _ _ _ _ _ _ _; refine Wp.go tabOk rfl ?_) | (show @cmpK _ _ _; (first | refine cmpY ?_ | refine cmpN ?_ | (refine cmp_both ?_ ?_ <;> intro _))) | (show wrapK _ _ _; refine wrapA ?_) | (show leK _ _ _; refine leA ?_) | (show roomK _ _ _; refine roomA ?_) | (show ltK _ _ _; refine ltA ?_) | (show _ ∧ _; refine ⟨?_, ?_⟩) | (show keepK _ _ _ _ _; refine keepA ?_) | refine own_keep ?_ | refine ap_old ?_))
    all_goals (conv => whnf)
    all_goals exact ⟨(m + 1, m + 1), [(1, some 3)], ⟨hlt, rfl⟩, by simp only; omega, rfl, ⟨rfl, rfl, rfl, rfl, rfl, rfl, rfl, rfl, rfl, trivial⟩, ⟨by
      show (3, Ent.rows (spRows ((List.range (m + 1)).map (convTerm n.data.xs k1 k2 k3 i1 i2 o))) 2 110) ∈ _
      rw [hsn]; exact sp_snoc _ _ hil.symm, (by repeat (first | exact List.mem_cons_self | apply List.mem_cons_of_mem)), trivial⟩, fun _ _ h => h⟩
  · obtain rfl : m = Q := by omega
    (repeat' ((conv => whnf) <;> first | (show drawK _ 10 _ _ _ _ _ _; refine draw_tree tabOk mixed [] _ dtIQ0 (by kernel_rfl) (by kernel_rfl) (by kernel_rfl) (List.Sublist.refl _) ?_) | (show drawK _ _ _ _ _ _ _ _; refine draw_quiet tabOk mixed (by kernel_rfl) ?_) | (show Wp _ _ _ _ _ _ _; refine Wp.go tabOk rfl ?_) | (show @cmpK _ _ _; (first | refine cmpY ?_ | refine cmpN ?_ | (refine cmp_both ?_ ?_ <;> intro _))) | (show wrapK _ _ _; refine wrapA ?_) | (show leK _ _ _; refine leA ?_) | (show roomK _ _ _; refine roomA ?_) | (show ltK _ _ _; refine ltA ?_) | (show _ ∧ _; refine ⟨?_, ?_⟩) | (show keepK _ _ _ _ _; refine keepA ?_) | refine own_keep ?_ | refine ap_old ?_))
    conv => whnf
    exact terms_end rfl (fun _ _ h => h) rfl (by repeat (first | exact List.mem_cons_self | apply List.mem_cons_of_mem)) hil.symm
end Go.Proofs.Ytdmkdogakbipbaa

/- IR -/
namespace Go.Proofs.Ytdmkdogakbipbaa
abbrev dtIR0 : Go.SX.DT := (.take 0 (.take 1 (.take 2 (.take 3 (.take 4 (.take 5 (.take 6 (.take 7 (.take 8 (.take 9 (.take 10 (.take 11 (.take 12 (.take 13 (.take 14 (.take 15 (.take 16 (.take 17 (.take 18 (.take 19 (.take 20 (.take 21 (.take 22 (.take 23 (.take 24 (.take 25 (.take 26 (.take 27 (.take 28 (.take 29 (.take 30 (.take 31 (.take 32 (.take 33 (.take 34 (.take 35 (.take 36 (.one 37 (.one 38 (.take 39 (.done)))))))))))))))))))))))))))))))))))))))))
open Go.SX Go.RowKit
def poolTerm (z i1 i2 o : Int) (i : Nat) : Sp :=
  (1, (o / (i2 / z) / (i1 / z) * i1 + o / (i2 / z) % (i1 / z) * z + (i : Int) / z) * i2 + o % (i2 / z) * z + (i : Int) % z)
def poolT (z i1 i2 o : Int) : List Sp := (List.range (z * z).toNat).map (poolTerm z i1 i2 o)
structure PoolOk (n : NodeV) (t : IntsV) (i1 i2 o : Int) : Prop where
  h_inn : ∃ i0, t.xs = [i0, i1, i2]
  h_z1 : 1 ≤ n.size ∧ n.size ≤ i1
  h_z2 : n.size ≤ i2
  h_i1 : i1 ≤ 64
  h_i2 : i2 ≤ 64
  h_o : 0 ≤ o ∧ o ≤ 64
theorem div_pos1 {x y : Int} (hy : 0 < y) (h : y ≤ x) : 1 ≤ x / y := by
  have := Int.ediv_le_ediv hy h
  rwa [Int.ediv_self (by omega)] at this
set_option maxRecDepth 20000 in
set_option maxHeartbeats 2000000 in
theorem pool_any (w : World) (n : NodeV) (t : IntsV) (ht : t.ok w) (fnV : Value) (c i1 i2 o : Int) (h : PoolOk n t i1 i2 o) : Calls Try.prog 77 #[placeV n t.val fnV c, .int .i64 o] w (TermsPost w (poolT n.size i1 i2 o)) := by
  obtain ⟨⟨i0, hi⟩, bz1, bz2, bi1, bi2, bo⟩ := h
  obtain ⟨ut, hut⟩ := ht.base (by rw [hi]; simp)
  have htr : ∀ (R : Nat → Prop) w', (baseA w).holds R w' → RowsI w' (some ut) 1 (ints [i0, i1, i2]) := fun R w' h => by rw [← hut, ← hi]; exact rows_base h ht.rows
  have htl : t.xs.length = 3 := by rw [hi]; rfl
  have hW := div_pos1 (x := i2) (y := n.size) (by omega) bz2
  have hH := div_pos1 (x := i1) (y := n.size) (by omega) bz1.2
  obtain ⟨a1, a2, _, _⟩ := div_bd (x := i2) (y := n.size) (by omega) (by omega)
  obtain ⟨a5, a6, _, _⟩ := div_bd (x := i1) (y := n.size) (by omega) (by omega)
  obtain ⟨d1, d2, d3, d4⟩ := div_bd (x := o) (y := i2 / n.size) bo.1 (by omega)
  obtain ⟨d5, d6, d7, d8⟩ := div_bd (x := o / (i2 / n.size)) (y := i1 / n.size) d1 (by omega)
  have m1 := mul_bd (x := n.size) (y := n.size) (A := 64) (B := 64) (by omega) (by omega)
  have m2 := Int.mul_pos (show 0 < n.size by omega) (show 0 < n.size by omega)
  have m3 := mul_bd (x := o / (i2 / n.size) / (i1 / n.size)) (y := i1) (A := 64) (B := 64) (by omega) (by omega)
  have m4 := mul_bd (x := o / (i2 / n.size) % (i1 / n.size)) (y := n.size) (A := 64) (B := 64) (by omega) (by omega)
  have m5 := mul_bd (x := o % (i2 / n.size)) (y := n.size) (A := 64) (B := 64) (by omega) (by omega)
  obtain ⟨Q, hQ⟩ : ∃ Q : Nat, n.size * n.size = Q := ⟨(n.size * n.size).toNat, by omega⟩
  have hcT : poolT n.size i1 i2 o = (List.range Q).map (poolTerm n.size i1 i2 o) := by unfold poolT; rw [hQ]; rfl
  rw [hcT]
  refine calls_of tab tabOk Try.func77 rfl rfl rfl [] (fun _ => ⟨none, 0⟩) [.agg [.c (.int .i64 n.kind), .c (.int .i64 n.a), .c (.int .i64 n.b), .c n.shape.val, .c (.int .i64 n.lo), .c (.int .i64 n.hi), .c (.int .i64 n.size), .c n.data.val, .c n.bias.val, .c t.val, .c fnV, .c (.int .i64 c)], .c (.int .i64 o)] [] (baseA w) 0 rfl rfl (by show 2 ≤ _; decide) (abs_base w) ?_
  (repeat' ((conv => whnf) <;> first | (show idxK _ _ _ _ _; (first | refine idx_of ut 1 hut rfl (by rw [htl]; decide) ?_ | refine idx_of ut 2 hut rfl (by rw [htl]; decide) ?_)) | (show roK _ _ _; (first | refine ro_row0 htr [.int .i64 i1] (.int .i64 i1) (j := 1) rfl rfl ?_ | refine ro_row0 htr [.int .i64 i2] (.int .i64 i2) (j := 2) rfl rfl ?_)) | (show remK _ _ _; refine rem_pos (by omega) (by omega) ?_) | (show divK _ _ _ _; refine div_pos rfl (by omega) (by omega) (by omega) ?_) | (show drawK _ 7 _ _ _ _ _ _; refine draw_tree tabOk mixed [] _ dtIR0 (by kernel_rfl) (by kernel_rfl) (by kernel_rfl) (List.Sublist.refl _) ?_) | (show drawK _ _ _ _ _ _ _ _; refine draw_quiet tabOk mixed (by kernel_rfl) ?_) | (show Wp _ _ _ _ _ _ _; refine Wp.go tabOk rfl ?_) | (show @cmpK _ _ _; (first | refine cmpY ?_ | refine cmpN ?_ | (refine cmp_both ?_ ?_ <;> intro _))) | (show wrapK _ _ _; refine wrapA ?_) | (show leK _ _ _; refine leA ?_) | (show roomK _ _ _; refine roomA ?_) | (show ltK _ _ _; refine ltA ?_) | (show _ ∧ _; refine ⟨?_, ?_⟩) | (show keepK _ _ _ _ _; refine keepA ?_) | refine own_keep ?_ | refine ap_old ?_))
  rw [hQ]
  refine Wp.loop (σ := Nat × Nat) 2 (fun ⟨i, m⟩ => [(2, .lp 0 0 0 0), (7, .c (.int .i64 (o % (i2 / n.size)))), (8, .c (.int .i64 (o / (i2 / n.size) % (i1 / n.size)))), (9, .c (.int .i64 (o / (i2 / n.size) / (i1 / n.size)))), (10, .os 1 m), (47, .c (.int .i64 Q)), (48, .c (.int .i64 i))]) (fun ⟨i, m⟩ => [(1, .rows (spRows ((List.range i).map (poolTerm n.size i1 i2 o))) 2 110), (0, .box [.c (.int .i64 n.kind), .c (.int .i64 n.a), .c (.int .i64 n.b), .c n.shape.val, .c (.int .i64 n.lo), .c (.int .i64 n.hi), .c (.int .i64 n.size), .c n.data.val, .c n.bias.val, .c t.val, .c fnV, .c (.int .i64 c)] 75)]) (fun _ => baseA w)
    (fun ⟨i, m⟩ => i ≤ Q ∧ m = i) (fun s => Q - s.1) (0, 0) [(1, none)] (by decide) (fun s => ⟨rfl, rfl⟩) ⟨Nat.zero_le _, rfl⟩ ⟨rfl, ⟨rfl, rfl, rfl, rfl, rfl, rfl, rfl, trivial⟩, ⟨rfl, (by repeat (first | exact List.mem_cons_self | apply List.mem_cons_of_mem)), trivial⟩, fun _ _ h => h⟩ ?_
  rintro ⟨i, m⟩ ⟨hiQ, hmi⟩
  subst hmi
  have hil : ((List.range m).map (poolTerm n.size i1 i2 o)).length = m := by simp
  by_cases hlt : m < Q
  · have hsn : (List.range (m + 1)).map (poolTerm n.size i1 i2 o) = (List.range m).map (poolTerm n.size i1 i2 o) ++ [poolTerm n.size i1 i2 o m] := by rw [List.range_succ, List.map_append]; rfl
    obtain ⟨c1, c2, c3, c4⟩ := div_bd (x := (m : Int)) (y := n.size) (by omega) (by omega)
    have p2 := mul_bd (x := o / (i2 / n.size) / (i1 / n.size) * i1 + o / (i2 / n.size) % (i1 / n.size) * n.size + (m : Int) / n.size) (y := i2) (A := 100000) (B := 64) (by omega) (by omega)
    (repeat' ((conv => whnf) <;> first | (show keepK _ _ _ _ _; (refine keep_of (by repeat (first | exact List.Sublist.refl _ | exact List.nil_sublist _ | apply List.Sublist.cons_cons | apply List.Sublist.cons)) (fun _ _ h => h) ?_)) | (show drawK _ 7 _ _ _ _ _ _; (refine draw_tree tabOk mixed [] [(0, .box [.c (.int .i64 n.kind), .c (.int .i64 n.a), .c (.int .i64 n.b), .c n.shape.val, .c (.int .i64 n.lo), .c (.int .i64 n.hi), .c (.int .i64 n.size), .c n.data.val, .c n.bias.val, .c t.val, .c fnV, .c (.int .i64 c)] 75)] (.take 0 (.take 1 (.take 2 (.take 3 (.take 4 (.take 5 (.take 6 (.take 7 (.take 8 (.take 9 (.take 10 (.take 11 (.take 12 (.take 13 (.take 14 (.take 15 (.take 16 (.take 17 (.take 18 (.take 19 (.take 20 (.take 21 (.take 22 (.take 23 (.take 24 (.take 25 (.take 26 (.take 27 (.take 28 (.take 29 (.take 30 (.take 31 (.take 32 (.take 33 (.take 34 (.take 35 (.take 36 (.one 37 (.one 38 (.take 39 (.done))))))))))))))))))))))))))))))))))))))))) (by kernel_rfl) (by kernel_rfl) (by kernel_rfl) (by repeat (first | exact List.Sublist.refl _ | exact List.nil_sublist _ | apply List.Sublist.cons_cons | apply List.Sublist.cons)) ?_)) | (show idxK _ _ _ _ _; (first | refine idx_of ut 1 hut rfl (by rw [htl]; decide) ?_ | refine idx_of ut 2 hut rfl (by rw [htl]; decide) ?_)) | (show roK _ _ _; (first | refine ro_row0 htr [.int .i64 i1] (.int .i64 i1) (j := 1) rfl rfl ?_ | refine ro_row0 htr [.int .i64 i2] (.int .i64 i2) (j := 2) rfl rfl ?_)) | (show remK _ _ _; refine rem_pos (by omega) (by omega) ?_) | (show divK _ _ _ _; refine div_pos rfl (by omega) (by omega) (by omega) ?_) | (show leK _ _ _; (refine le_of (by rw [spRows_length, hil]; exact Nat.le_refl _) ?_)) | (show roomK _ _ _; (refine room_of (by show (m + 1) * 16 ≤ 140737488355328; omega) ?_)) | (show drawK _ _ _ _ _ _ _ _; refine draw_quiet tabOk mixed (by kernel_rfl) ?_) | (show Wp _ _ _ _ _ _ _; refine Wp.go tabOk rfl ?_) | (show @cmpK _ _ _; (first | refine cmpY ?_ | refine cmpN ?_ | (refine cmp_both ?_ ?_ <;> intro _))) | (show wrapK _ _ _; refine wrapA ?_) | (show leK _ _ _; refine leA ?_) | (show roomK _ _ _; refine roomA ?_) | (show ltK _ _ _; refine ltA ?_) | (show _ ∧ _; refine ⟨?_, ?_⟩) | (show keepK _ _ _ _ _; refine keepA ?_) | refine own_keep ?_ | refine ap_old ?_))
    all_goals (conv => whnf)
    all_goals exact ⟨(m + 1, m + 1), [(1, some 3)], ⟨hlt, rfl⟩, by simp only; omega, rfl, ⟨rfl, rfl, rfl, rfl, rfl, rfl, rfl, trivial⟩, ⟨by
      show (3, Ent.rows (spRows ((List.range (m + 1)).map (poolTerm n.size i1 i2 o))) 2 110) ∈ _
      rw [hsn]; exact sp_snoc _ _ hil.symm, (by repeat (first | exact List.mem_cons_self | apply List.mem_cons_of_mem)), trivial⟩, fun _ _ h => h⟩
  · obtain rfl : m = Q := by omega
    (repeat' ((conv => whnf) <;> first | (show drawK _ 7 _ _ _ _ _ _; refine draw_tree tabOk mixed [] _ dtIR0 (by kernel_rfl) (by kernel_rfl) (by kernel_rfl) (List.Sublist.refl _) ?_) | (show drawK _ _ _ _ _ _ _ _; refine draw_quiet tabOk mixed (by kernel_rfl) ?_) | (show Wp _ _ _ _ _ _ _; refine Wp.go tabOk rfl ?_) | (show @cmpK _ _ _; (first | refine cmpY ?_ | refine cmpN ?_ | (refine cmp_both ?_ ?_ <;> intro _))) | (show wrapK _ _ _; refine wrapA ?_) | (show leK _ _ _; refine leA ?_) | (show roomK _ _ _; refine roomA ?_) | (show ltK _ _ _; refine ltA ?_) | (show _ ∧ _; refine ⟨?_, ?_⟩) | (show keepK _ _ _ _ _; refine keepA ?_) | refine own_keep ?_ | refine ap_old ?_))
    conv => whnf
    exact terms_end rfl (fun _ _ h => h) rfl (by repeat (first | exact List.mem_cons_self | apply List.mem_cons_of_mem)) hil.symm
end Go.Proofs.Ytdmkdogakbipbaa

