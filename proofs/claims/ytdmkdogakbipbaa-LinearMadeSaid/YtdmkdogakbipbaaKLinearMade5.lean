import Derived.Test.YtdmkdogakbipbaaRows
import Derived.Test.YtdmkdogakbipbaaKLinearMade4
/- GW -/
namespace Go.Proofs.Ytdmkdogakbipbaa
open Go.SX Go.RowKit
def NodeV.valA (n : NodeV) : Value := .agg n.cells.toArray
def nilI : IntsV := ⟨none, 0, []⟩
/-- a node's numbers; al: its shape is another's -/
def nodeD (n : NodeV) (al : Bool) : Asn where
  holds R w := (al = false → (intsA n.shape).holds R w) ∧ (intsA n.data).holds R w ∧ (intsA n.bias).holds R w
  stable := fun hR hw h => ⟨fun e => (intsA n.shape).stable hR hw (h.1 e), (intsA n.data).stable hR hw h.2.1, (intsA n.bias).stable hR hw h.2.2⟩
theorem nilI_holds (R : Nat → Prop) (w : World) : (intsA nilI).holds R w := ⟨fun r hr => by simp [nilI, ints] at hr, .inl rfl⟩
theorem own_new {w w' : World} {b : Nat} {ρ : Nat → SX.Loc} {nx j m : Nat} {H : Heap} {S : Asn} {cells : List SV} {T : TypeId} {xs : List Int} (hw : Abs ⟨w, [(0, boxL b)]⟩ ρ nx H S w') (hS : ∀ R w', S.holds R w' → (restA w b).holds R w') (h0 : (0, Ent.box cells T) ∈ H) (he : (j, Ent.rows (ints xs) 1 3) ∈ H) (hj : j ≠ 0) (hm : m = xs.length) (hf : ∀ x ∈ xs, i64 x) (hl : xs.length ≤ 1000000) :
    ∃ u : IntsV, (SV.os j m).rf ρ = u.val ∧ u.xs = xs ∧ u.sane ∧ (intsA u).holds (fun y => w.heap.size ≤ y ∧ y < w'.heap.size) w' := by
  subst hm
  have hn := box_rows hw hS h0 he hj
  rw [ints_length] at hn
  exact newInts hn hf hl
/-- what a made node is -/
structure Made (n : NodeV) : Prop where
  shape : n.shape.sane
  data : n.data.sane
  bias : n.bias.sane
  shapeFew : n.shape.xs.length ≤ 4
  dataFew : n.data.xs.length ≤ 1000
  biasFew : n.bias.xs.length ≤ 200
  kindFits : i64 n.kind
  aFits : i64 n.a
  bFits : i64 n.b
  loFits : i64 n.lo
  hiFits : i64 n.hi
  sizeFits : i64 n.size
theorem nilI_sane : nilI.sane := ⟨by simp [nilI], Nat.le_refl _, by simp [nilI]⟩
/-- a shape that a made graph has -/
structure ShOk (s : List Int) : Prop where
  pos : 0 < entries s
  few : entries s ≤ 18
  three : s.length = 3 → s.getD 0 0 ≤ 2 ∧ s.getD 1 0 * s.getD 2 0 ≤ 9
structure IsInput (n : NodeV) : Prop where
  made : Made n
  kind : n.kind = 1
  a : n.a = 0
  b : n.b = 0
  shape : ShOk n.shape.xs
  lo : -4 ≤ n.lo ∧ n.lo ≤ 4
  hi : n.lo ≤ n.hi ∧ n.hi ≤ 9
  size : n.size = 0
  data : n.data = nilI
  bias : n.bias = nilI
abbrev InPost (w : World) (b : Nat) (t : BytesV) : Ending → World → Prop := TPost w b t NodeV.valA (fun n => nodeD n false) IsInput
theorem z0 : i64 0 := ⟨by decide, by decide⟩
theorem z1 : i64 1 := ⟨by decide, by decide⟩
theorem fits_of {xs : List Int} (h : (xs.all fun x => decide (0 ≤ x ∧ x ≤ 1000)) = true) : ∀ x ∈ xs, i64 x := fun x hx => by
  have := List.all_eq_true.1 h x hx
  simp only [decide_eq_true_eq] at this
  exact ⟨by omega, by omega⟩
theorem ends_input {w : World} {b : Nat} {t : BytesV} {H : Heap} {S : Asn} {nx j m k : Nat} {xs : List Int} {lo hi : Int} (h0 : (0, Ent.box (cs (tcells t k)) 30) ∈ H) (he : (j, Ent.rows (ints xs) 1 3) ∈ H) (hj : j ≠ 0) (hm : m = xs.length) (hx : ∀ x ∈ xs, i64 x) (hl : xs.length ≤ 3) (hen : ShOk xs) (hk : k ≤ t.bs.length)
    (hlo : -4 ≤ lo ∧ lo ≤ 4) (hhi : lo ≤ hi ∧ hi ≤ 9) (hS : ∀ R w', S.holds R w' → (restA w b).holds R w') :
    finK ⟨w, [(0, boxL b)]⟩ (.agg [.c (.int .i64 1), .c (.int .i64 0), .c (.int .i64 0), .os j m, .c (.int .i64 lo), .c (.int .i64 hi), .c (.int .i64 0), .c (.slice none 0 0), .c (.slice none 0 0)]) H S nx (InPost w b t) := by
  refine fin_of fun ρ w' hw => ?_
  obtain ⟨u, e, h1, h2, h3⟩ := own_new hw hS h0 he hj hm hx (by omega)
  refine ⟨(⟨1, 0, 0, u, lo, hi, 0, nilI, nilI⟩, k), ⟨⟨⟨h2, nilI_sane, nilI_sane, by rw [h1]; omega, by simp [nilI], by simp [nilI], z1, z0, z0, ⟨by simp only; omega, by simp only; omega⟩, ⟨by simp only; omega, by simp only; omega⟩, z0⟩, rfl, rfl, rfl, by rw [h1]; exact hen, hlo, hhi, rfl, rfl, rfl⟩, hk⟩, ?_, (box_end hw hS h0).1, (box_end hw hS h0).2, fun _ => h3, nilI_holds _ _, nilI_holds _ _⟩
  simp only [SV.rf, SV.rfs] at e ⊢
  rw [e]
  rfl
theorem ent_1 : ShOk [1] := ⟨by unfold entries; decide, by unfold entries; decide, by decide⟩
theorem ent_2 : ShOk [2] := ⟨by unfold entries; decide, by unfold entries; decide, by decide⟩
theorem ent_3 : ShOk [3] := ⟨by unfold entries; decide, by unfold entries; decide, by decide⟩
theorem ent_22 : ShOk [2, 2] := ⟨by unfold entries; decide, by unfold entries; decide, by decide⟩
theorem ent_122 : ShOk [1, 2, 2] := ⟨by unfold entries; decide, by unfold entries; decide, by decide⟩
theorem ent_221 : ShOk [2, 2, 1] := ⟨by unfold entries; decide, by unfold entries; decide, by decide⟩
theorem ent_133 : ShOk [1, 3, 3] := ⟨by unfold entries; decide, by unfold entries; decide, by decide⟩
theorem ent_142 : ShOk [1, 4, 2] := ⟨by unfold entries; decide, by unfold entries; decide, by decide⟩
set_option maxRecDepth 20000 in
set_option maxHeartbeats 4000000 in
theorem input_any (w : World) (b : Nat) (t : BytesV) (k : Nat) (h : TapeOk w b t k) :
    Calls Try.prog 40 #[.pointer (some ⟨b, 0, none⟩)] w (InPost w b t) := by
  obtain ⟨hs, hby, hd, hk, hb⟩ := h
  refine calls_of tab tabOk Try.func40 rfl rfl rfl [(0, boxL b)] (fun _ => boxL b) [.lp 0 0 0 0] _ (restA w b) 1 (by simp [SV.rfs, SV.rf, boxL, add_none]) rfl (by show 1 ≤ _; decide) (abs_box hb) ?_
  (repeat' ((conv => whnf) <;> first | (show Wp _ _ _ _ _ _ _; refine Wp.go tabOk rfl ?_) | (show @cmpK _ _ _; (first | refine cmpY ?_ | refine cmpN ?_ | (refine cmp_both ?_ ?_ <;> intro _))) | (show wrapK _ _ _; refine wrapA ?_) | (show leK _ _ _; refine leA ?_) | (show roomK _ _ _; refine roomA ?_) | (show ltK _ _ _; refine ltA ?_) | (show _ ∧ _; refine ⟨?_, ?_⟩) | (show keepK _ _ _ _ _; refine keepA ?_) | refine own_keep ?_ | refine ap_old ?_))
  refine call_num (f := 41) [.int .i64 8] t k _ (by first | exact List.mem_cons_self | exact List.mem_cons_of_mem _ List.mem_cons_self | (repeat (first | exact List.mem_cons_self | apply List.mem_cons_of_mem))) Try.call41 hs hby hk (fun R w' h => rest_holds hd h) (fun w' b' ht => next_any w' b' t k ht 8 ⟨by decide, by decide⟩) (fun r k1 hr hk1 => ?_)
  have hr8 : r = 0 ∨ r = 1 ∨ r = 2 ∨ r = 3 ∨ r = 4 ∨ r = 5 ∨ r = 6 ∨ r = 7 := by have := hr.1; have := hr.2.1 (by omega); omega
  rcases hr8 with rfl | rfl | rfl | rfl | rfl | rfl | rfl | rfl
  all_goals
    (repeat' ((conv => whnf) <;> first | (show Wp _ _ _ _ _ _ _; refine Wp.go tabOk rfl ?_) | (show @cmpK _ _ _; (first | refine cmpY ?_ | refine cmpN ?_ | (refine cmp_both ?_ ?_ <;> intro _))) | (show wrapK _ _ _; refine wrapA ?_) | (show leK _ _ _; refine leA ?_) | (show roomK _ _ _; refine roomA ?_) | (show ltK _ _ _; refine ltA ?_) | (show _ ∧ _; refine ⟨?_, ?_⟩) | (show keepK _ _ _ _ _; refine keepA ?_) | refine own_keep ?_ | refine ap_old ?_))
    refine call_num (f := 70) [] t k1 _ (by first | exact List.mem_cons_self | exact List.mem_cons_of_mem _ List.mem_cons_self | (repeat (first | exact List.mem_cons_self | apply List.mem_cons_of_mem))) Try.call70 hs hby hk1 (fun R w' h => rest_holds hd h) (fun w' b' ht => small_any w' b' t k1 ht) (fun lo k2 hlo hk2 => ?_)
    (repeat' ((conv => whnf) <;> first | (show Wp _ _ _ _ _ _ _; refine Wp.go tabOk rfl ?_) | (show @cmpK _ _ _; (first | refine cmpY ?_ | refine cmpN ?_ | (refine cmp_both ?_ ?_ <;> intro _))) | (show wrapK _ _ _; refine wrapA ?_) | (show leK _ _ _; refine leA ?_) | (show roomK _ _ _; refine roomA ?_) | (show ltK _ _ _; refine ltA ?_) | (show _ ∧ _; refine ⟨?_, ?_⟩) | (show keepK _ _ _ _ _; refine keepA ?_) | refine own_keep ?_ | refine ap_old ?_))
    refine call_num (f := 41) [.int .i64 6] t k2 _ (by first | exact List.mem_cons_self | exact List.mem_cons_of_mem _ List.mem_cons_self | (repeat (first | exact List.mem_cons_self | apply List.mem_cons_of_mem))) Try.call41 hs hby hk2 (fun R w' h => rest_holds hd h) (fun w' b' ht => next_any w' b' t k2 ht 6 ⟨by decide, by decide⟩) (fun r k3 hr hk3 => ?_)
    have hr1 := hr.1
    have hr2 := hr.2.1 (by omega)
    (repeat' ((conv => whnf) <;> first | (show Wp _ _ _ _ _ _ _; refine Wp.go tabOk rfl ?_) | (show @cmpK _ _ _; (first | refine cmpY ?_ | refine cmpN ?_ | (refine cmp_both ?_ ?_ <;> intro _))) | (show wrapK _ _ _; refine wrapA ?_) | (show leK _ _ _; refine leA ?_) | (show roomK _ _ _; refine roomA ?_) | (show ltK _ _ _; refine ltA ?_) | (show _ ∧ _; refine ⟨?_, ?_⟩) | (show keepK _ _ _ _ _; refine keepA ?_) | refine own_keep ?_ | refine ap_old ?_))
    conv => whnf
  · exact ends_input (j := 2) (xs := [1]) (by first | exact List.mem_cons_self | exact List.mem_cons_of_mem _ List.mem_cons_self | (repeat (first | exact List.mem_cons_self | apply List.mem_cons_of_mem))) (by first | exact List.mem_cons_self | exact List.mem_cons_of_mem _ List.mem_cons_self | (repeat (first | exact List.mem_cons_self | apply List.mem_cons_of_mem))) (by decide) rfl (fits_of rfl) (by decide) ent_1 hk3 hlo ⟨by omega, by omega⟩ (fun _ _ h => h)
  · exact ends_input (j := 3) (xs := [2]) (by first | exact List.mem_cons_self | exact List.mem_cons_of_mem _ List.mem_cons_self | (repeat (first | exact List.mem_cons_self | apply List.mem_cons_of_mem))) (by first | exact List.mem_cons_self | exact List.mem_cons_of_mem _ List.mem_cons_self | (repeat (first | exact List.mem_cons_self | apply List.mem_cons_of_mem))) (by decide) rfl (fits_of rfl) (by decide) ent_2 hk3 hlo ⟨by omega, by omega⟩ (fun _ _ h => h)
  · exact ends_input (j := 4) (xs := [3]) (by first | exact List.mem_cons_self | exact List.mem_cons_of_mem _ List.mem_cons_self | (repeat (first | exact List.mem_cons_self | apply List.mem_cons_of_mem))) (by first | exact List.mem_cons_self | exact List.mem_cons_of_mem _ List.mem_cons_self | (repeat (first | exact List.mem_cons_self | apply List.mem_cons_of_mem))) (by decide) rfl (fits_of rfl) (by decide) ent_3 hk3 hlo ⟨by omega, by omega⟩ (fun _ _ h => h)
  · exact ends_input (j := 5) (xs := [2, 2]) (by first | exact List.mem_cons_self | exact List.mem_cons_of_mem _ List.mem_cons_self | (repeat (first | exact List.mem_cons_self | apply List.mem_cons_of_mem))) (by first | exact List.mem_cons_self | exact List.mem_cons_of_mem _ List.mem_cons_self | (repeat (first | exact List.mem_cons_self | apply List.mem_cons_of_mem))) (by decide) rfl (fits_of rfl) (by decide) ent_22 hk3 hlo ⟨by omega, by omega⟩ (fun _ _ h => h)
  · exact ends_input (j := 6) (xs := [1, 2, 2]) (by first | exact List.mem_cons_self | exact List.mem_cons_of_mem _ List.mem_cons_self | (repeat (first | exact List.mem_cons_self | apply List.mem_cons_of_mem))) (by first | exact List.mem_cons_self | exact List.mem_cons_of_mem _ List.mem_cons_self | (repeat (first | exact List.mem_cons_self | apply List.mem_cons_of_mem))) (by decide) rfl (fits_of rfl) (by decide) ent_122 hk3 hlo ⟨by omega, by omega⟩ (fun _ _ h => h)
  · exact ends_input (j := 7) (xs := [2, 2, 1]) (by first | exact List.mem_cons_self | exact List.mem_cons_of_mem _ List.mem_cons_self | (repeat (first | exact List.mem_cons_self | apply List.mem_cons_of_mem))) (by first | exact List.mem_cons_self | exact List.mem_cons_of_mem _ List.mem_cons_self | (repeat (first | exact List.mem_cons_self | apply List.mem_cons_of_mem))) (by decide) rfl (fits_of rfl) (by decide) ent_221 hk3 hlo ⟨by omega, by omega⟩ (fun _ _ h => h)
  · exact ends_input (j := 8) (xs := [1, 3, 3]) (by first | exact List.mem_cons_self | exact List.mem_cons_of_mem _ List.mem_cons_self | (repeat (first | exact List.mem_cons_self | apply List.mem_cons_of_mem))) (by first | exact List.mem_cons_self | exact List.mem_cons_of_mem _ List.mem_cons_self | (repeat (first | exact List.mem_cons_self | apply List.mem_cons_of_mem))) (by decide) rfl (fits_of rfl) (by decide) ent_133 hk3 hlo ⟨by omega, by omega⟩ (fun _ _ h => h)
  · exact ends_input (j := 9) (xs := [1, 4, 2]) (by first | exact List.mem_cons_self | exact List.mem_cons_of_mem _ List.mem_cons_self | (repeat (first | exact List.mem_cons_self | apply List.mem_cons_of_mem))) (by first | exact List.mem_cons_self | exact List.mem_cons_of_mem _ List.mem_cons_self | (repeat (first | exact List.mem_cons_self | apply List.mem_cons_of_mem))) (by decide) rfl (fits_of rfl) (by decide) ent_142 hk3 hlo ⟨by omega, by omega⟩ (fun _ _ h => h)
end Go.Proofs.Ytdmkdogakbipbaa

/- SL -/
namespace Go.Proofs.Ytdmkdogakbipbaa
open Go.SX Go.RowKit
structure GraphV.fit (w : World) (g : GraphV) : Prop where
  rows : RowsI w g.base 9 (nodeRows g.l)
  each : ∀ n ∈ g.l, n.ok w
  few : g.l.length ≤ 1000000
theorem GraphV.fit.later {w w' : World} {R : Nat → Prop} {g : GraphV} (h : g.fit w) (hb : (baseA w).holds R w') : g.fit w' := ⟨rows_base hb h.rows, fun n hn => (h.each n hn).later hb, h.few⟩
end Go.Proofs.Ytdmkdogakbipbaa

/- GR -/
namespace Go.Proofs.Ytdmkdogakbipbaa
open Go.SX Go.RowKit
end Go.Proofs.Ytdmkdogakbipbaa

/- GS -/
namespace Go.Proofs.Ytdmkdogakbipbaa
open Go.SX Go.ChangeShapes Go.WideShapes Go.ChangeAt Go.RowKit
theorem own : ownKnob Try.prog.godebug = none := by kernel_rfl
theorem laidOut : laidOutB Try.prog = true := by kernel_rfl
theorem opens_of {H : Type} {enc : TypeId × Value → H} {P : Program} {w : World} {t : TypeId} {Q : List Value → Prop} {base : Nat} {sp : Nat → Bool} {held : Bool} {v : Value} {d : DataW H} {ps : List MemPlace} (h : Opens P w t Q) (ht : DataW.Trod enc P w base sp held t v d ps) : Q v.cells.toList := by
  obtain ⟨n, hn⟩ := ht
  exact h.out enc base sp held n _ _ hn
end Go.Proofs.Ytdmkdogakbipbaa

/- IA -/
namespace Go.Proofs.Ytdmkdogakbipbaa
open Go.SX Go.RowKit
def placeV (n : NodeV) (inV fnV : Value) (c : Int) : Value := .agg #[.int .i64 n.kind, .int .i64 n.a, .int .i64 n.b, n.shape.val, .int .i64 n.lo, .int .i64 n.hi, .int .i64 n.size, n.data.val, n.bias.val, inV, fnV, .int .i64 c]
theorem mul_bd {x y A B : Int} (hx : -A ≤ x ∧ x ≤ A) (hy : -B ≤ y ∧ y ≤ B) : -(A * B) ≤ x * y ∧ x * y ≤ A * B := by
  have hA : (0 : Int) ≤ A := by omega
  have hB : (0 : Int) ≤ B := by omega
  have h1 : x.natAbs ≤ A.natAbs := by omega
  have h2 : y.natAbs ≤ B.natAbs := by omega
  have h3 := Nat.mul_le_mul h1 h2
  rw [← Int.natAbs_mul, ← Int.natAbs_mul] at h3
  have h4 : 0 ≤ A * B := Int.mul_nonneg hA hB
  omega
theorem div_i64 {x y : Int} {K : Int → Prop} (hy : y ≠ 0) (hx : -4611686018427387904 ≤ x ∧ x ≤ 4611686018427387904) (h : K (x.tdiv y)) : divK .i64 x y K := by
  rw [divK_def]
  refine ⟨hy, ?_⟩
  have h1 : (x.tdiv y).natAbs ≤ x.natAbs := by rw [Int.natAbs_tdiv]; exact Nat.div_le_self _ _
  have h2 : wrapK .i64 (x.tdiv y) K := wrap_i64 (by omega) (by omega) h
  rw [wrapK_def] at h2
  exact h2
def bd20 (x : Int) : Prop := -1048576 ≤ x ∧ x ≤ 1048576
def powI (d : List Int) (v : Int) : Int := d.getD 2 0 * v * v + d.getD 1 0 * v + d.getD 0 0
theorem pow_bd {a b c v : Int} (ha : bd20 a) (hb : bd20 b) (hc : bd20 c) (hv : bd20 v) : (-1099511627776 ≤ a * v ∧ a * v ≤ 1099511627776) ∧ (-1152921504606846976 ≤ a * v * v ∧ a * v * v ≤ 1152921504606846976) ∧ (-1099511627776 ≤ b * v ∧ b * v ≤ 1099511627776) := by
  have h1 := mul_bd (A := 1048576) (B := 1048576) ha hv
  have h2 : -1099511627776 ≤ a * v ∧ a * v ≤ 1099511627776 := h1
  exact ⟨h2, mul_bd (A := 1099511627776) (B := 1048576) h2 hv, mul_bd (A := 1048576) (B := 1048576) hb hv⟩
theorem getD_bd {l : List Int} (h : ∀ x ∈ l, bd20 x) (k : Nat) : bd20 (l.getD k 0) := by
  rcases Nat.lt_or_ge k l.length with hk | hk
  · exact h _ (getD_mem hk)
  · rw [List.getD_eq_getElem?_getD, List.getElem?_eq_none hk]; exact ⟨by decide, by decide⟩
end Go.Proofs.Ytdmkdogakbipbaa

/- IB -/
namespace Go.Proofs.Ytdmkdogakbipbaa
open Go.SX Go.RowKit
abbrev Sp := Int × Int
def spanV (s : Sp) : Value := .agg #[.int .i64 s.1, .int .i64 s.2]
def ptsL : Nat → Int → List Int
  | 0, _ => []
  | n + 1, v => v :: ptsL n (v + 1)
def turnI (d : List Int) : Int := (0 - d.getD 1 0).tdiv (2 * d.getD 2 0)
def loI (d : List Int) (a : Sp) : Int := max a.1 (turnI d - 1)
def hiI (d : List Int) (a : Sp) : Int := min a.2 (turnI d + 1)
/-- numbers among which a span's ends are, of a node that is not linear over weights -/
def endsL (n : NodeV) (a b : Sp) : List Int :=
  if n.kind = 1 then [n.lo, n.hi]
  else if n.kind = 2 then n.data.xs
  else if n.kind = 6 then [a.1 + b.1, a.2 + b.2]
  else if n.kind = 7 then [n.data.xs.getD 0 0 * a.1, n.data.xs.getD 0 0 * a.2]
  else if n.kind = 8 then (if n.data.xs.getD 2 0 = 0 then [powI n.data.xs a.1, powI n.data.xs a.2] else [powI n.data.xs a.1, powI n.data.xs a.2] ++ (ptsL (hiI n.data.xs a - loI n.data.xs a + 1).toNat (loI n.data.xs a)).map (powI n.data.xs))
  else [a.1, a.2]
def oldA (x : IntsV × Bool) : Asn where
  holds R w := x.2 = false → (intsA x.1).holds R w
  stable := fun hR hw h e => (intsA x.1).stable hR hw (h e)
def EndsPost (w : World) (n : NodeV) (l : List Int) (e : Ending) (w' : World) : Prop :=
  ∃ x : IntsV × Bool, (x.1.xs = l ∧ x.1.sane ∧ (x.2 = true → x.1 = n.data)) ∧ e = .returned x.1.val ∧ Ext w w' ∧ (oldA x).holds (fun b => w.heap.size ≤ b ∧ b < w'.heap.size) w'
theorem eends_old {B : Base} {H : Heap} {S : Asn} {nx : Nat} {w : World} {n : NodeV} {l : List Int} (hb : ∀ R w', S.holds R w' → (baseA B.w0).holds R w') (hw0 : B.w0 = w) (hs : n.data.sane) (hl : n.data.xs = l) : finK B (.c n.data.val) H S nx (EndsPost w n l) := by
  subst hw0
  exact fin_of fun ρ w' hw => ⟨(n.data, true), ⟨hl, hs, fun _ => rfl⟩, rfl, ext_of_abs hw hb, fun h => by cases h⟩
theorem eends_new {B : Base} {i m : Nat} {H : Heap} {S : Asn} {nx : Nat} {w : World} {n : NodeV} {l : List Int} (hb : ∀ R w', S.holds R w' → (baseA B.w0).holds R w') (hw0 : B.w0 = w) (he : (i, Ent.rows (ints l) 1 3) ∈ H) (hm : m = l.length) (hf : ∀ x ∈ l, i64 x) (hl : l.length ≤ 1000000) : finK B (.os i m) H S nx (EndsPost w n l) := by
  subst hw0 hm
  refine fin_of fun ρ w' hw => ?_
  have hn := new_of_abs hw hb he
  rw [ints_length] at hn
  obtain ⟨u, e1, e2, e3, e4⟩ := newInts hn hf hl
  exact ⟨(u, false), ⟨e2, e3, fun h => by cases h⟩, by rw [e1], ext_of_abs hw hb, fun _ => e4⟩
theorem powI_bd {d : List Int} {v : Int} (hd : ∀ x ∈ d, bd20 x) (hv : bd20 v) : -4611686018427387904 ≤ powI d v ∧ powI d v ≤ 4611686018427387904 := by
  obtain ⟨q1, q2, q3⟩ := pow_bd (getD_bd hd 2) (getD_bd hd 1) (getD_bd hd 0) hv
  have := getD_bd hd 0
  unfold bd20 at this
  unfold powI
  omega
end Go.Proofs.Ytdmkdogakbipbaa

/- IC -/
namespace Go.Proofs.Ytdmkdogakbipbaa
open Go.SX Go.RowKit
structure NodeIn (n : NodeV) (sh : List (List Int)) (s : List Int) : Prop where
  form : formB n sh.length = true
  shape : shapeO n sh = some s
  near : nearB n = true
theorem checkR_in : ∀ {l : List NodeV} {sh0 sh : List (List Int)}, checkR l sh0 = (0, sh) → ∃ q, sh = sh0 ++ q ∧ q.length = l.length ∧ ∀ i n, l[i]? = some n → ∃ s, q[i]? = some s ∧ NodeIn n (sh0 ++ q.take i) s
  | [], sh0, sh, h => by
    obtain rfl : sh0 = sh := by simpa [checkR] using h
    exact ⟨[], by simp, rfl, fun i n hn => by simp at hn⟩
  | m :: r, sh0, sh, h => by
    by_cases hf : formB m sh0.length = false
    · rw [checkR_form hf] at h; simp at h
    have hf : formB m sh0.length = true := by simpa using hf
    cases hs : shapeO m sh0 with
    | none => rw [checkR_shape hf hs] at h; simp at h
    | some s =>
      by_cases hn : nearB m = false
      · rw [checkR_near hf hs hn] at h; simp at h
      have hn : nearB m = true := by simpa using hn
      rw [checkR_next hf hs hn] at h
      obtain ⟨q, hq, hl, ha⟩ := checkR_in h
      refine ⟨s :: q, by rw [hq, List.append_assoc]; rfl, by simp [hl], fun i n hin => ?_⟩
      cases i with
      | zero =>
        simp only [List.getElem?_cons_zero, Option.some.injEq] at hin
        subst hin
        exact ⟨s, rfl, by simpa using hf, by simpa using hs, hn⟩
      | succ i =>
        simp only [List.getElem?_cons_succ] at hin
        obtain ⟨t, h1, h2⟩ := ha i n hin
        refine ⟨t, by simpa using h1, ?_⟩
        rw [List.take_succ_cons, show sh0 ++ s :: q.take i = sh0 ++ [s] ++ q.take i by simp]
        exact h2
theorem check_in {g : GraphV} (h : (check g).1 = 0) : 1 ≤ g.l.length ∧ g.l.length ≤ 24 ∧ (0 ≤ g.out ∧ g.out < g.l.length) ∧ (check g).2.length = g.l.length ∧ ∀ i n, g.l[i]? = some n → ∃ s, (check g).2[i]? = some s ∧ NodeIn n ((check g).2.take i) s := by
  unfold check at h ⊢
  split at h
  · simp at h
  rename_i hc
  rw [if_neg hc]
  obtain ⟨q, hq, hl, ha⟩ := checkR_in (l := g.l) (sh0 := []) (sh := (checkR g.l []).2) (Prod.ext h rfl)
  rw [List.nil_append] at hq
  subst hq
  exact ⟨by omega, by omega, by omega, hl, fun i n hn => ha i n hn⟩
theorem ahead_of {n : NodeV} {at_ : Nat} (h : formB n at_ = true) : (0 ≤ n.a ∧ (n.a < at_ ∨ n.a = 0)) ∧ (0 ≤ n.b ∧ (n.b < at_ ∨ n.b = 0)) ∧ (n.kind = 7 → n.data.xs.length = 1) ∧ (n.kind = 8 → n.data.xs.length = 3) ∧ (n.kind = 2 → (n.data.xs.length : Int) = entries n.shape.xs) := by
  have hfo := formed_of h
  have hkk := hfo.kind
  unfold formB at h
  have hk : n.kind = 1 ∨ n.kind = 2 ∨ n.kind = 3 ∨ n.kind = 4 ∨ n.kind = 5 ∨ n.kind = 6 ∨ n.kind = 7 ∨ n.kind = 8 ∨ n.kind = 9 := by omega
  rcases hk with hk | hk | hk | hk | hk | hk | hk | hk | hk
  all_goals repeat (first | rw [if_pos (by omega)] at h | rw [if_neg (by omega)] at h)
  all_goals simp only [lacksB, aheadB, Bool.true_or, Bool.false_or, Bool.true_and, Bool.and_true, Bool.and_eq_true, decide_eq_true_eq] at h
  all_goals exact ⟨by omega, by omega, by omega, by omega, by omega⟩
theorem near_in {n : NodeV} (h : nearB n = true) : (∀ x ∈ n.data.xs, bd20 x) ∧ (∀ x ∈ n.bias.xs, bd20 x) ∧ bd20 n.lo ∧ bd20 n.hi ∧ n.lo ≤ n.hi := by
  unfold nearB nearL at h
  simp only [Bool.and_eq_true, List.all_eq_true, decide_eq_true_eq] at h
  exact ⟨fun x hx => h.1.1.1 x hx, fun x hx => h.1.1.2 x hx, h.1.2 n.lo (by simp), h.1.2 n.hi (by simp), h.2⟩
theorem foldl_min_le : ∀ (l : List Int) (x : Int), l.foldl min x ≤ x ∧ ∀ y ∈ l, l.foldl min x ≤ y
  | [], x => ⟨Int.le_refl _, fun y hy => by simp at hy⟩
  | z :: r, x => by
    obtain ⟨h1, h2⟩ := foldl_min_le r (min x z)
    refine ⟨by rw [List.foldl_cons]; omega, fun y hy => ?_⟩
    rw [List.foldl_cons]
    rcases List.mem_cons.1 hy with rfl | hy
    · omega
    · exact h2 y hy
theorem foldl_max_ge : ∀ (l : List Int) (x : Int), x ≤ l.foldl max x ∧ ∀ y ∈ l, y ≤ l.foldl max x
  | [], x => ⟨Int.le_refl _, fun y hy => by simp at hy⟩
  | z :: r, x => by
    obtain ⟨h1, h2⟩ := foldl_max_ge r (max x z)
    refine ⟨by rw [List.foldl_cons]; omega, fun y hy => ?_⟩
    rw [List.foldl_cons]
    rcases List.mem_cons.1 hy with rfl | hy
    · omega
    · exact h2 y hy
theorem foldI_min_le {l : List Int} {y : Int} (h : y ∈ l) : foldI min l ≤ y := by
  cases l with
  | nil => simp at h
  | cons x r =>
    rcases List.mem_cons.1 h with rfl | h
    · exact (foldl_min_le r _).1
    · exact (foldl_min_le r x).2 y h
theorem foldI_max_ge {l : List Int} {y : Int} (h : y ∈ l) : y ≤ foldI max l := by
  cases l with
  | nil => simp at h
  | cons x r =>
    rcases List.mem_cons.1 h with rfl | h
    · exact (foldl_max_ge r _).1
    · exact (foldl_max_ge r x).2 y h
theorem foldI_le {l : List Int} (h : 1 ≤ l.length) : foldI min l ≤ foldI max l := by
  cases l with
  | nil => simp at h
  | cons x r => exact Int.le_trans (foldI_min_le List.mem_cons_self) (foldI_max_ge List.mem_cons_self)
def spRows (l : List Sp) : List (List Value) := l.map fun s => [.int .i64 s.1, .int .i64 s.2]
theorem spRows_length (l : List Sp) : (spRows l).length = l.length := by simp [spRows]
theorem spRows_get {l : List Sp} {k : Nat} (h : k < l.length) : (spRows l)[k]? = some [.int .i64 l[k].1, .int .i64 l[k].2] := by simp [spRows, h]
def gridS (n : Nat) (acc : List Sp) : List Sp := acc ++ List.replicate (n - acc.length) (0, 0)
theorem gridS_length {n : Nat} {acc : List Sp} (h : acc.length ≤ n) : (gridS n acc).length = n := by unfold gridS; simp; omega
theorem gridS_getD {n j : Nat} {acc : List Sp} (h : acc.length ≤ n) (hj : j < n) : (spRows (gridS n acc))[j]? = some [.int .i64 (acc.getD j (0, 0)).1, .int .i64 (acc.getD j (0, 0)).2] := by
  rw [spRows_get (by rw [gridS_length h]; exact hj)]
  have : (gridS n acc)[j]'(by rw [gridS_length h]; exact hj) = acc.getD j (0, 0) := by
    unfold gridS
    rw [List.getElem_append]
    split
    · rename_i hlt; rw [List.getD_eq_getElem?_getD, List.getElem?_eq_getElem hlt]; rfl
    · rename_i hlt; rw [List.getD_eq_getElem?_getD, List.getElem?_eq_none (by omega)]; simp
  rw [this]
theorem gridS_store {n i : Nat} {acc : List Sp} {x y : Int} {K : List (List Value) → Prop} (hl : acc.length = i) (hi : i < n) (h : K (spRows (gridS n (acc ++ [(x, y)])))) : rowStoreK (spRows (gridS n acc)) i 0 [.int .i64 x, .int .i64 y] K := by
  subst hl
  refine rowStore_of _ (gridS_getD (Nat.le_of_lt hi) hi) (by show 0 + 2 ≤ 2; omega) ?_
  have e : (spRows (gridS n acc)).set acc.length (setFrom [.int .i64 (acc.getD acc.length (0, 0)).1, .int .i64 (acc.getD acc.length (0, 0)).2] 0 [.int .i64 x, .int .i64 y]) = spRows (gridS n (acc ++ [(x, y)])) := by
    have e2 : setFrom [.int .i64 (acc.getD acc.length (0, 0)).1, .int .i64 (acc.getD acc.length (0, 0)).2] 0 [.int .i64 x, .int .i64 y] = [Value.int .i64 x, .int .i64 y] := rfl
    rw [e2]
    unfold gridS spRows
    obtain ⟨k, hk⟩ : ∃ k, n - acc.length = k + 1 := ⟨n - acc.length - 1, by omega⟩
    rw [hk, List.length_append, List.length_singleton, show n - (acc.length + 1) = k by omega, List.replicate_succ]
    simp only [List.map_append, List.map_cons, List.map_nil]
    rw [List.set_append_right _ _ (by simp), List.length_map, Nat.sub_self, List.set_cons_zero]
    simp
  rw [e]; exact h
theorem shapes_okI {sv : ShapesV} {R : Nat → Prop} {w : World} {N : Nat} (hs : ∀ u ∈ sv.l, u.sane) (hl : sv.l.length ≤ 24) (h : ((shapesD sv).past N).holds R w) : sv.ok w :=
  ⟨rowsA_in h.1, fun u hu => intsA_ok (hs u hu) (h.2 u hu), hl⟩
def SpansPost (w : World) (r : Int × List Sp) (e : Ending) (w' : World) : Prop :=
  (r.1 ≠ 0 ∧ e = .returned (.tuple #[.slice none 0 0, .int .i64 r.1]) ∧ Ext w w') ∨ (r.1 = 0 ∧ ∃ v, e = .returned (.tuple #[v, .int .i64 0]) ∧ Ext w w' ∧ NewRows w w' v 2 68 (spRows r.2))
end Go.Proofs.Ytdmkdogakbipbaa

/- ID -/
namespace Go.Proofs.Ytdmkdogakbipbaa
open Go.SX Go.RowKit
theorem spans_bad {B : Base} {v : SV} {H : Heap} {S : Asn} {nx : Nat} {w : World} {r : Int × List Sp} (hb : ∀ R w', S.holds R w' → (baseA B.w0).holds R w') (hw0 : B.w0 = w) (hn : r.1 ≠ 0) (hv : ∀ ρ, v.rf ρ = .tuple #[.slice none 0 0, .int .i64 r.1]) : finK B v H S nx (SpansPost w r) := by
  subst hw0
  exact fin_of fun ρ w' hw => .inl ⟨hn, by rw [hv], ext_of_abs hw hb⟩
theorem spans_good {B : Base} {i n : Nat} {l : List Sp} {H : Heap} {S : Asn} {nx : Nat} {w : World} {r : Int × List Sp} (hb : ∀ R w', S.holds R w' → (baseA B.w0).holds R w') (hw0 : B.w0 = w) (he : (i, Ent.rows (spRows l) 2 68) ∈ H) (hn : n = l.length) (hr : r = (0, l)) : finK B (.tup [.os i n, .c (.int .i64 0)]) H S nx (SpansPost w r) := by
  subst hw0 hn hr
  refine fin_of fun ρ w' hw => .inr ⟨rfl, _, rfl, ext_of_abs hw hb, ?_⟩
  have hh := new_of_abs hw hb he
  rw [spRows_length] at hh
  exact hh
theorem endsL_len {n : NodeV} {a b : Sp} {at_ : Nat} (h : formB n at_ = true) : 1 ≤ (endsL n a b).length := by
  have h1 := (ahead_of h).2.2.2.2
  have hfo := formed_of h
  unfold endsL
  split
  · simp
  · split
    · rename_i hk
      have := hfo.own (.inr (.inl hk))
      have := h1 hk
      omega
    · split
      · simp
      · split
        · simp
        · split
          · split <;> simp
          · simp
end Go.Proofs.Ytdmkdogakbipbaa

/- IE -/
namespace Go.Proofs.Ytdmkdogakbipbaa
open Go.SX Go.RowKit
theorem pow_diff (d : List Int) (u v : Int) : powI d v - powI d u = (v - u) * (d.getD 2 0 * (u + v) + d.getD 1 0) := by
  unfold powI
  generalize d.getD 2 0 = a
  generalize d.getD 1 0 = b
  generalize d.getD 0 0 = c
  grind
theorem turn_lo {a b : Int} (ha : 0 < a) : 2 * a * ((0 - b).tdiv (2 * a) - 1) + b ≤ 0 ∧ 0 ≤ 2 * a * ((0 - b).tdiv (2 * a) + 1) + b := by
  have h1 := Int.mul_tdiv_add_tmod (0 - b) (2 * a)
  have h2 : ((0 - b).tmod (2 * a)).natAbs < (2 * a).natAbs := by
    rw [Int.natAbs_tmod]; exact Nat.mod_lt _ (by omega)
  have h3 : 2 * a * ((0 - b).tdiv (2 * a) - 1) = 2 * a * (0 - b).tdiv (2 * a) - 2 * a := by rw [Int.mul_sub, Int.mul_one]
  have h4 : 2 * a * ((0 - b).tdiv (2 * a) + 1) = 2 * a * (0 - b).tdiv (2 * a) + 2 * a := by rw [Int.mul_add, Int.mul_one]
  rw [h3, h4]
  omega
theorem mono_up {a b T u v : Int} (ha : 0 < a) (hT : 0 ≤ 2 * a * (T + 1) + b) (h1 : T + 1 ≤ u) (h2 : u ≤ v) : 0 ≤ (v - u) * (a * (u + v) + b) := by
  refine Int.mul_nonneg (by omega) ?_
  have h3 : a * (2 * (T + 1)) ≤ a * (u + v) := Int.mul_le_mul_of_nonneg_left (by omega) (by omega)
  have h4 : 2 * a * (T + 1) = a * (2 * (T + 1)) := by grind
  omega
theorem mono_down {a b T u v : Int} (ha : 0 < a) (hT : 2 * a * (T - 1) + b ≤ 0) (h1 : v ≤ T - 1) (h2 : u ≤ v) : (v - u) * (a * (u + v) + b) ≤ 0 := by
  refine Int.mul_nonpos_of_nonneg_of_nonpos (by omega) ?_
  have h3 : a * (u + v) ≤ a * (2 * (T - 1)) := Int.mul_le_mul_of_nonneg_left (by omega) (by omega)
  have h4 : 2 * a * (T - 1) = a * (2 * (T - 1)) := by grind
  omega
/-- p falls up to T - 1 and grows from T + 1, or the other way round -/
theorem pow_ways {d : List Int} (h : d.getD 2 0 ≠ 0) :
    ((∀ u v, u ≤ v → v ≤ turnI d - 1 → powI d v ≤ powI d u) ∧ (∀ u v, turnI d + 1 ≤ u → u ≤ v → powI d u ≤ powI d v)) ∨
    ((∀ u v, u ≤ v → v ≤ turnI d - 1 → powI d u ≤ powI d v) ∧ (∀ u v, turnI d + 1 ≤ u → u ≤ v → powI d v ≤ powI d u)) := by
  rcases (by omega : 0 < d.getD 2 0 ∨ d.getD 2 0 < 0) with ha | ha
  · obtain ⟨t1, t2⟩ := turn_lo (b := d.getD 1 0) ha
    left
    refine ⟨fun u v h1 h2 => ?_, fun u v h1 h2 => ?_⟩
    · have := pow_diff d u v
      have := mono_down ha t1 h2 h1
      omega
    · have := pow_diff d u v
      have := mono_up ha t2 h1 h2
      omega
  · have ha' : 0 < -(d.getD 2 0) := by omega
    obtain ⟨t1, t2⟩ := turn_lo (b := -(d.getD 1 0)) ha'
    have hT : (0 - -(d.getD 1 0)).tdiv (2 * -(d.getD 2 0)) = turnI d := by
      unfold turnI
      rw [show 0 - -(d.getD 1 0) = -(0 - d.getD 1 0) by omega, show 2 * -(d.getD 2 0) = -(2 * d.getD 2 0) by omega, Int.neg_tdiv, Int.tdiv_neg, Int.neg_neg]
    rw [hT] at t1 t2
    have hneg : ∀ u v : Int, (v - u) * (-(d.getD 2 0) * (u + v) + -(d.getD 1 0)) = -((v - u) * (d.getD 2 0 * (u + v) + d.getD 1 0)) := fun u v => by grind
    right
    refine ⟨fun u v h1 h2 => ?_, fun u v h1 h2 => ?_⟩
    · have := pow_diff d u v
      have h3 := mono_down ha' t1 h2 h1
      rw [hneg] at h3
      omega
    · have := pow_diff d u v
      have h3 := mono_up ha' t2 h1 h2
      rw [hneg] at h3
      omega
theorem mem_ptsL : ∀ {n : Nat} {v x : Int}, x ∈ ptsL n v ↔ v ≤ x ∧ x < v + n
  | 0, v, x => by simp [ptsL]
  | n + 1, v, x => by
    unfold ptsL
    rw [List.mem_cons, mem_ptsL]
    omega
def powEnds (d : List Int) (a : Sp) : List Int := if d.getD 2 0 = 0 then [powI d a.1, powI d a.2] else [powI d a.1, powI d a.2] ++ (ptsL (hiI d a - loI d a + 1).toNat (loI d a)).map (powI d)
theorem powEnds_lo {d : List Int} {a : Sp} : powI d a.1 ∈ powEnds d a := by unfold powEnds; split <;> simp
theorem powEnds_hi {d : List Int} {a : Sp} : powI d a.2 ∈ powEnds d a := by unfold powEnds; split <;> simp
theorem powEnds_in {d : List Int} {a : Sp} {v : Int} (hz : d.getD 2 0 ≠ 0) (h1 : loI d a ≤ v) (h2 : v ≤ hiI d a) : powI d v ∈ powEnds d a := by
  unfold powEnds
  rw [if_neg hz]
  exact List.mem_append_right _ (List.mem_map.2 ⟨v, mem_ptsL.2 ⟨h1, by omega⟩, rfl⟩)
theorem powEnds_all {d : List Int} {a : Sp} {v : Int} (h1 : a.1 ≤ v) (h2 : v ≤ a.2) : (∃ x ∈ powEnds d a, x ≤ powI d v) ∧ (∃ x ∈ powEnds d a, powI d v ≤ x) := by
  by_cases hz : d.getD 2 0 = 0
  · have e1 := pow_diff d a.1 v
    have e2 := pow_diff d v a.2
    rw [hz] at e1 e2
    rw [Int.zero_mul, Int.zero_add] at e1 e2
    rcases (by omega : 0 ≤ d.getD 1 0 ∨ d.getD 1 0 ≤ 0) with hb | hb
    · have m1 := Int.mul_nonneg (show 0 ≤ v - a.1 by omega) hb
      have m2 := Int.mul_nonneg (show 0 ≤ a.2 - v by omega) hb
      exact ⟨⟨_, powEnds_lo, by omega⟩, ⟨_, powEnds_hi, by omega⟩⟩
    · have m1 := Int.mul_nonpos_of_nonneg_of_nonpos (show 0 ≤ v - a.1 by omega) hb
      have m2 := Int.mul_nonpos_of_nonneg_of_nonpos (show 0 ≤ a.2 - v by omega) hb
      exact ⟨⟨_, powEnds_hi, by omega⟩, ⟨_, powEnds_lo, by omega⟩⟩
  · by_cases hin : loI d a ≤ v ∧ v ≤ hiI d a
    · exact ⟨⟨_, powEnds_in hz hin.1 hin.2, Int.le_refl _⟩, ⟨_, powEnds_in hz hin.1 hin.2, Int.le_refl _⟩⟩
    · have hL : loI d a = max a.1 (turnI d - 1) := rfl
      have hH : hiI d a = min a.2 (turnI d + 1) := rfl
      rcases (by omega : v < loI d a ∨ hiI d a < v) with hv | hv
      · have hvT : v ≤ turnI d - 1 := by omega
        rcases (by omega : turnI d - 1 ≤ a.2 ∨ a.2 ≤ turnI d - 1) with hc | hc
        · have hm := powEnds_in (a := a) (v := turnI d - 1) hz (by omega) (by omega)
          rcases pow_ways hz with ⟨w1, _⟩ | ⟨w1, _⟩
          · exact ⟨⟨_, hm, w1 v (turnI d - 1) hvT (Int.le_refl _)⟩, ⟨_, powEnds_lo, w1 a.1 v h1 hvT⟩⟩
          · exact ⟨⟨_, powEnds_lo, w1 a.1 v h1 hvT⟩, ⟨_, hm, w1 v (turnI d - 1) hvT (Int.le_refl _)⟩⟩
        · rcases pow_ways hz with ⟨w1, _⟩ | ⟨w1, _⟩
          · exact ⟨⟨_, powEnds_hi, w1 v a.2 h2 hc⟩, ⟨_, powEnds_lo, w1 a.1 v h1 hvT⟩⟩
          · exact ⟨⟨_, powEnds_lo, w1 a.1 v h1 hvT⟩, ⟨_, powEnds_hi, w1 v a.2 h2 hc⟩⟩
      · have hvT : turnI d + 1 ≤ v := by omega
        rcases (by omega : a.1 ≤ turnI d + 1 ∨ turnI d + 1 ≤ a.1) with hc | hc
        · have hm := powEnds_in (a := a) (v := turnI d + 1) hz (by omega) (by omega)
          rcases pow_ways hz with ⟨_, w2⟩ | ⟨_, w2⟩
          · exact ⟨⟨_, hm, w2 (turnI d + 1) v (Int.le_refl _) hvT⟩, ⟨_, powEnds_hi, w2 v a.2 hvT h2⟩⟩
          · exact ⟨⟨_, powEnds_hi, w2 v a.2 hvT h2⟩, ⟨_, hm, w2 (turnI d + 1) v (Int.le_refl _) hvT⟩⟩
        · rcases pow_ways hz with ⟨_, w2⟩ | ⟨_, w2⟩
          · exact ⟨⟨_, powEnds_lo, w2 a.1 v hc h1⟩, ⟨_, powEnds_hi, w2 v a.2 hvT h2⟩⟩
          · exact ⟨⟨_, powEnds_hi, w2 v a.2 hvT h2⟩, ⟨_, powEnds_lo, w2 a.1 v hc h1⟩⟩
theorem pow_within {d : List Int} {a : Sp} {v : Int} (h1 : a.1 ≤ v) (h2 : v ≤ a.2) : foldI min (powEnds d a) ≤ powI d v ∧ powI d v ≤ foldI max (powEnds d a) := by
  obtain ⟨⟨x, hx, hx'⟩, ⟨y, hy, hy'⟩⟩ := powEnds_all (d := d) h1 h2
  exact ⟨Int.le_trans (foldI_min_le hx) hx', Int.le_trans hy' (foldI_max_ge hy)⟩
theorem foldl_min_mem : ∀ (l : List Int) (x : Int), l.foldl min x = x ∨ l.foldl min x ∈ l
  | [], x => .inl rfl
  | z :: r, x => by
    rw [List.foldl_cons]
    rcases foldl_min_mem r (min x z) with h | h
    · rw [h]
      rcases (by omega : min x z = x ∨ min x z = z) with h | h
      · exact .inl h
      · exact .inr (by rw [h]; exact List.mem_cons_self)
    · exact .inr (List.mem_cons_of_mem _ h)
theorem foldl_max_mem : ∀ (l : List Int) (x : Int), l.foldl max x = x ∨ l.foldl max x ∈ l
  | [], x => .inl rfl
  | z :: r, x => by
    rw [List.foldl_cons]
    rcases foldl_max_mem r (max x z) with h | h
    · rw [h]
      rcases (by omega : max x z = x ∨ max x z = z) with h | h
      · exact .inl h
      · exact .inr (by rw [h]; exact List.mem_cons_self)
    · exact .inr (List.mem_cons_of_mem _ h)
theorem foldI_min_mem {l : List Int} (h : 1 ≤ l.length) : foldI min l ∈ l := by
  cases l with
  | nil => simp at h
  | cons x r =>
    rcases foldl_min_mem r x with h | h
    · rw [foldI, h]; exact List.mem_cons_self
    · exact List.mem_cons_of_mem _ h
theorem foldI_max_mem {l : List Int} (h : 1 ≤ l.length) : foldI max l ∈ l := by
  cases l with
  | nil => simp at h
  | cons x r =>
    rcases foldl_max_mem r x with h | h
    · rw [foldI, h]; exact List.mem_cons_self
    · exact List.mem_cons_of_mem _ h
end Go.Proofs.Ytdmkdogakbipbaa

/- IF -/
namespace Go.Proofs.Ytdmkdogakbipbaa
abbrev dtIF3 : Go.SX.DT := (.take 0 (.take 1 (.take 2 (.take 3 (.take 4 (.take 5 (.take 6 (.take 7 (.take 8 (.take 9 (.take 10 (.take 11 (.take 12 (.take 13 (.one 14 (.done))))))))))))))))
open Go.SX Go.RowKit
def numAt (n : NodeV) (a b : List Int) (o : Nat) : Int :=
  if n.kind = 2 then n.data.xs.getD o 0
  else if n.kind = 6 then a.getD o 0 + b.getD o 0
  else if n.kind = 7 then a.getD o 0 * n.data.xs.getD 0 0
  else if n.kind = 8 then powI n.data.xs (a.getD o 0)
  else a.getD o 0
def numsL (n : NodeV) (cnt : Nat) (a b : List Int) : List Int := (List.range cnt).map (numAt n a b)
structure NumsOk (w : World) (n : NodeV) (cnt : Nat) (a b : IntsV) : Prop where
  kind : n.kind = 2 ∨ n.kind = 6 ∨ n.kind = 7 ∨ n.kind = 8 ∨ n.kind = 9
  few : cnt ≤ 64
  data : n.data.ok w
  dataBd : ∀ x ∈ n.data.xs, bd20 x
  const : n.kind = 2 → n.data.xs.length = cnt
  scale : n.kind = 7 → n.data.xs.length = 1
  power : n.kind = 8 → n.data.xs.length = 3
  aOk : a.ok w
  bOk : b.ok w
  aLen : n.kind ≠ 2 → a.xs.length = cnt
  bLen : n.kind = 6 → b.xs.length = cnt
  aBd : ∀ x ∈ a.xs, bd20 x
  bBd : ∀ x ∈ b.xs, bd20 x
theorem numAt_bd {w : World} {n : NodeV} {cnt : Nat} {a b : IntsV} (h : NumsOk w n cnt a b) (o : Nat) : -4611686018427387904 ≤ numAt n a.xs b.xs o ∧ numAt n a.xs b.xs o ≤ 4611686018427387904 := by
  have h1 := getD_bd h.dataBd o
  have h2 := getD_bd h.dataBd 0
  have h3 := getD_bd h.aBd o
  have h4 := getD_bd h.bBd o
  have h5 := mul_bd (A := 1048576) (B := 1048576) h3 h2
  have h6 := powI_bd h.dataBd h3
  unfold bd20 at h1 h2 h3 h4
  unfold numAt
  split
  · omega
  · split
    · omega
    · split
      · omega
      · split <;> omega
end Go.Proofs.Ytdmkdogakbipbaa

/- IG -/
namespace Go.Proofs.Ytdmkdogakbipbaa
open Go.SX Go.RowKit
def within (s : Sp) (l : List Int) : Prop := ∀ x ∈ l, s.1 ≤ x ∧ x ≤ s.2
theorem within_getD {s : Sp} {l : List Int} (h : within s l) {o : Nat} (ho : o < l.length) : s.1 ≤ l.getD o 0 ∧ l.getD o 0 ≤ s.2 := h _ (getD_mem ho)
theorem scale_within {d a1 a2 v : Int} (h1 : a1 ≤ v) (h2 : v ≤ a2) : foldI min [d * a1, d * a2] ≤ v * d ∧ v * d ≤ foldI max [d * a1, d * a2] := by
  have e : v * d = d * v := Int.mul_comm _ _
  have m1 : foldI min [d * a1, d * a2] = min (d * a1) (d * a2) := rfl
  have m2 : foldI max [d * a1, d * a2] = max (d * a1) (d * a2) := rfl
  rw [m1, m2, e]
  rcases (by omega : 0 ≤ d ∨ d ≤ 0) with hd | hd
  · have := Int.mul_le_mul_of_nonneg_left h1 hd
    have := Int.mul_le_mul_of_nonneg_left h2 hd
    omega
  · have := Int.mul_le_mul_of_nonpos_left hd h1
    have := Int.mul_le_mul_of_nonpos_left hd h2
    omega
theorem num_within {n : NodeV} {cnt o : Nat} {a b : List Int} {A B : Sp} (hk : n.kind = 2 ∨ n.kind = 6 ∨ n.kind = 7 ∨ n.kind = 8 ∨ n.kind = 9) (h2 : n.kind = 2 → n.data.xs.length = cnt) (ha : n.kind ≠ 2 → a.length = cnt) (hb : n.kind = 6 → b.length = cnt) (hA : within A a) (hB : within B b) (ho : o < cnt) :
    foldI min (endsL n A B) ≤ numAt n a b o ∧ numAt n a b o ≤ foldI max (endsL n A B) := by
  rcases hk with hk | hk | hk | hk | hk
  · have hN : numAt n a b o = n.data.xs.getD o 0 := if_pos hk
    have hL : endsL n A B = n.data.xs := by unfold endsL; rw [if_neg (by omega), if_pos hk]
    rw [hN, hL]
    have hm := getD_mem (xs := n.data.xs) (k := o) (by rw [h2 hk]; exact ho)
    exact ⟨foldI_min_le hm, foldI_max_ge hm⟩
  · have hN : numAt n a b o = a.getD o 0 + b.getD o 0 := by unfold numAt; rw [if_neg (by omega), if_pos hk]
    have hL : endsL n A B = [A.1 + B.1, A.2 + B.2] := by unfold endsL; rw [if_neg (by omega), if_neg (by omega), if_pos hk]
    rw [hN, hL]
    have h1 := within_getD hA (o := o) (by rw [ha (by omega)]; exact ho)
    have h2 := within_getD hB (o := o) (by rw [hb hk]; exact ho)
    have m1 : foldI min [A.1 + B.1, A.2 + B.2] = min (A.1 + B.1) (A.2 + B.2) := rfl
    have m2 : foldI max [A.1 + B.1, A.2 + B.2] = max (A.1 + B.1) (A.2 + B.2) := rfl
    rw [m1, m2]
    omega
  · have hN : numAt n a b o = a.getD o 0 * n.data.xs.getD 0 0 := by unfold numAt; rw [if_neg (by omega), if_neg (by omega), if_pos hk]
    have hL : endsL n A B = [n.data.xs.getD 0 0 * A.1, n.data.xs.getD 0 0 * A.2] := by unfold endsL; rw [if_neg (by omega), if_neg (by omega), if_neg (by omega), if_pos hk]
    rw [hN, hL]
    have h1 := within_getD hA (o := o) (by rw [ha (by omega)]; exact ho)
    exact scale_within h1.1 h1.2
  · have hN : numAt n a b o = powI n.data.xs (a.getD o 0) := by unfold numAt; rw [if_neg (by omega), if_neg (by omega), if_neg (by omega), if_pos hk]
    have hL : endsL n A B = powEnds n.data.xs A := by unfold endsL powEnds; rw [if_neg (by omega), if_neg (by omega), if_neg (by omega), if_neg (by omega), if_pos hk]
    rw [hN, hL]
    have h1 := within_getD hA (o := o) (by rw [ha (by omega)]; exact ho)
    exact pow_within h1.1 h1.2
  · have hN : numAt n a b o = a.getD o 0 := by unfold numAt; rw [if_neg (by omega), if_neg (by omega), if_neg (by omega), if_neg (by omega)]
    have hL : endsL n A B = [A.1, A.2] := by unfold endsL; rw [if_neg (by omega), if_neg (by omega), if_neg (by omega), if_neg (by omega), if_neg (by omega)]
    rw [hN, hL]
    have h1 := within_getD hA (o := o) (by rw [ha (by omega)]; exact ho)
    have m1 : foldI min [A.1, A.2] = min A.1 A.2 := rfl
    have m2 : foldI max [A.1, A.2] = max A.1 A.2 := rfl
    rw [m1, m2]
    omega
structure InV.ok (w : World) (v : ShapesV) : Prop where
  rows : RowsI w v.base 1 (shRows v.l)
  each : ∀ u ∈ v.l, u.ok w
  room : v.l.length ≤ v.cap
  few : v.l.length ≤ 1000000
def InV.rest (v : ShapesV) (a : Addr) : ShapesV := ⟨some (if v.cap = 1 then a else a.add 1), v.cap - 1, v.l.drop 1⟩
theorem InV.later {w w' : World} {R : Nat → Prop} {v : ShapesV} (h : InV.ok w v) (hb : (baseA w).holds R w') : InV.ok w' v := ⟨rows_base hb h.rows, fun u hu => (h.each u hu).later hb, h.room, h.few⟩
end Go.Proofs.Ytdmkdogakbipbaa

/- IO -/
namespace Go.Proofs.Ytdmkdogakbipbaa
open Go.SX Go.RowKit
def termsF (n : NodeV) (inV : Value) (c : Int) : Value :=
  if n.kind = 3 then .func (.func 75) #[placeV n (.slice none 0 0) .nilFunc c] #[]
  else if n.kind = 4 then .func (.func 76) #[placeV n inV .nilFunc c] #[]
  else .func (.func 77) #[placeV n inV .nilFunc c] #[]
end Go.Proofs.Ytdmkdogakbipbaa

/- IP -/
namespace Go.Proofs.Ytdmkdogakbipbaa
open Go.SX Go.RowKit
theorem wrap_isI {z : Int} (y : Int) {K : Int → Prop} (h : z = y) (h1 : -9223372036854775808 ≤ y) (h2 : y ≤ 9223372036854775807) (hk : K y) : wrapK .i64 z K := by
  subst h; exact wrap_i64 h1 h2 hk
abbrev TermsPost (w : World) (l : List Sp) : Ending → World → Prop := fun e w' => ∃ v, e = .returned v ∧ Ext w w' ∧ NewRows w w' v 2 110 (spRows l)
theorem terms_end {B : Base} {i m : Nat} {H : Heap} {S : Asn} {nx : Nat} {w : World} {l l' : List Sp} (hl' : l' = l) (hb : ∀ R w', S.holds R w' → (baseA B.w0).holds R w') (hw0 : B.w0 = w) (he : (i, Ent.rows (spRows l') 2 110) ∈ H) (hm : m = l.length) : finK B (.os i m) H S nx (TermsPost w l) := by
  subst hw0 hm hl'
  refine fin_of fun ρ w' hw => ⟨_, rfl, ext_of_abs hw hb, ?_⟩
  have hn := new_of_abs hw hb he
  rw [spRows_length] at hn
  exact hn
def denseT (n : NodeV) (o : Nat) (size : Nat) : List Sp := (List.range size).map fun i => (n.data.xs.getD (o * size + i) 0, (i : Int))
theorem denseT_snoc (n : NodeV) (o size i : Nat) : (List.range (i + 1)).map (fun i => ((n.data.xs.getD (o * size + i) 0, (i : Int)) : Sp)) = (List.range i).map (fun i => ((n.data.xs.getD (o * size + i) 0, (i : Int)) : Sp)) ++ [(n.data.xs.getD (o * size + i) 0, (i : Int))] := by
  rw [List.range_succ, List.map_append]; rfl
set_option maxRecDepth 20000 in
theorem dense_any (w : World) (n : NodeV) (hd : n.data.ok w) (hbl : 1 ≤ n.bias.xs.length ∧ n.bias.xs.length ≤ 64) (inV fnV : Value) (c : Int) (o size : Nat) (hs : size ≤ 64) (hdl : n.data.xs.length = n.bias.xs.length * size) (ho : o < n.bias.xs.length) : Calls Try.prog 75 #[placeV n inV fnV c, .int .i64 o] w (TermsPost w (denseT n o size)) := by
  have hprod : n.bias.xs.length * size ≤ 64 * 64 := Nat.mul_le_mul hbl.2 hs
  have hdiv : (n.data.xs.length : Int) / n.bias.xs.length = size := by
    rw [hdl, Int.natCast_mul]
    exact Int.mul_ediv_cancel_left _ (by omega)
  have hos : o * size + size ≤ n.data.xs.length := by
    have := Nat.mul_le_mul_right size (show o + 1 ≤ n.bias.xs.length by omega)
    rw [Nat.succ_mul] at this
    omega
  refine calls_of tab tabOk Try.func75 rfl rfl rfl [] (fun _ => ⟨none, 0⟩) [.agg [.c (.int .i64 n.kind), .c (.int .i64 n.a), .c (.int .i64 n.b), .c n.shape.val, .c (.int .i64 n.lo), .c (.int .i64 n.hi), .c (.int .i64 n.size), .c n.data.val, .c n.bias.val, .c inV, .c fnV, .c (.int .i64 c)], .c (.int .i64 o)] [] (baseA w) 0 rfl rfl (by show 2 ≤ _; decide) (abs_base w) ?_
  (repeat' ((conv => whnf) <;> first | (show divK _ _ _ _; refine div_pos rfl (by omega) (by omega) (by omega) ?_) | (show Wp _ _ _ _ _ _ _; refine Wp.go tabOk rfl ?_) | (show @cmpK _ _ _; (first | refine cmpY ?_ | refine cmpN ?_ | (refine cmp_both ?_ ?_ <;> intro _))) | (show wrapK _ _ _; refine wrapA ?_) | (show leK _ _ _; refine leA ?_) | (show roomK _ _ _; refine roomA ?_) | (show ltK _ _ _; refine ltA ?_) | (show _ ∧ _; refine ⟨?_, ?_⟩) | (show keepK _ _ _ _ _; refine keepA ?_) | refine own_keep ?_ | refine ap_old ?_))
  rw [hdiv]
  (repeat' ((conv => whnf) <;> first | (show makeK _ _ _ _; (refine make_of size rfl rfl (by show 16 * _ ≤ _; omega) (by omega) ?_)) | (show Wp _ _ _ _ _ _ _; refine Wp.go tabOk rfl ?_) | (show @cmpK _ _ _; (first | refine cmpY ?_ | refine cmpN ?_ | (refine cmp_both ?_ ?_ <;> intro _))) | (show wrapK _ _ _; refine wrapA ?_) | (show leK _ _ _; refine leA ?_) | (show roomK _ _ _; refine roomA ?_) | (show ltK _ _ _; refine ltA ?_) | (show _ ∧ _; refine ⟨?_, ?_⟩) | (show keepK _ _ _ _ _; refine keepA ?_) | refine own_keep ?_ | refine ap_old ?_))
  refine Wp.loop (σ := Nat) 2 (fun i => [(1, .c (.int .i64 o)), (2, .lp 0 0 0 0), (5, .c (.int .i64 size)), (6, .os 1 size), (20, .c (.int .i64 size)), (21, .c (.int .i64 i))]) (fun i => [(1, .rows (spRows (gridS size ((List.range i).map fun i => ((n.data.xs.getD (o * size + i) 0, (i : Int)) : Sp)))) 2 110), (0, .box [.c (.int .i64 n.kind), .c (.int .i64 n.a), .c (.int .i64 n.b), .c n.shape.val, .c (.int .i64 n.lo), .c (.int .i64 n.hi), .c (.int .i64 n.size), .c n.data.val, .c n.bias.val, .c inV, .c fnV, .c (.int .i64 c)] 75)]) (fun _ => baseA w)
    (fun i => i ≤ size) (fun i => size - i) 0 [] (by decide) (fun s => ⟨rfl, rfl⟩) (Nat.zero_le _) ⟨rfl, ⟨rfl, rfl, rfl, rfl, rfl, rfl, trivial⟩, ⟨?_, (by repeat (first | exact List.mem_cons_self | apply List.mem_cons_of_mem)), trivial⟩, fun _ _ h => h⟩ ?_
  · have : spRows (gridS size ((List.range 0).map fun i => ((n.data.xs.getD (o * size + i) 0, (i : Int)) : Sp))) = List.replicate size [Value.int .i64 0, .int .i64 0] := by simp [spRows, gridS]
    show (1, Ent.rows (spRows (gridS size ((List.range 0).map fun i => ((n.data.xs.getD (o * size + i) 0, (i : Int)) : Sp)))) 2 110) ∈ _
    rw [this]
    exact (by repeat (first | exact List.mem_cons_self | apply List.mem_cons_of_mem))
  rintro i hi
  have hil : ((List.range i).map fun i => ((n.data.xs.getD (o * size + i) 0, (i : Int)) : Sp)).length = i := by simp
  by_cases hlt : i < size
  · have hsn := denseT_snoc n o size i
    obtain ⟨ua, hua⟩ := hd.base (by omega)
    have hur : ∀ (R : Nat → Prop) w', (baseA w).holds R w' → RowsI w' (some ua) 1 (ints n.data.xs) := fun R w' h => by rw [← hua]; exact rows_base h hd.rows
    have hm : (o : Int) * size = ((o * size : Nat) : Int) := by rw [Int.natCast_mul]
    obtain ⟨q, hq⟩ : ∃ q, o * size + i = q := ⟨_, rfl⟩
    rw [hq] at hsn
    (repeat' ((conv => whnf) <;> first | (show idxK _ _ _ _ _; refine idx_of _ q hua rfl (by omega) ?_) | (show roK _ _ _; refine ro_int hur (j := q) (by omega) ?_) | (show wrapK _ _ _; (first | refine wrap_isI ((o * size : Nat) : Int) hm (by omega) (by omega) ?_ | refine wrap_isI (q : Int) (by omega) (by omega) (by omega) ?_ | refine wrap_isI ((i + 1 : Nat) : Int) (by omega) (by omega) (by omega) ?_)) | (show idxRowK _ _ _ _ _ _; (refine idxRow_of i rfl hlt (by rw [spRows_length, gridS_length (by omega)]; exact Nat.le_refl _) ?_)) | (show rowStoreK _ _ _ _ _; refine gridS_store hil hlt ?_) | (show Wp _ _ _ _ _ _ _; refine Wp.go tabOk rfl ?_) | (show @cmpK _ _ _; (first | refine cmpY ?_ | refine cmpN ?_ | (refine cmp_both ?_ ?_ <;> intro _))) | (show wrapK _ _ _; refine wrapA ?_) | (show leK _ _ _; refine leA ?_) | (show roomK _ _ _; refine roomA ?_) | (show ltK _ _ _; refine ltA ?_) | (show _ ∧ _; refine ⟨?_, ?_⟩) | (show keepK _ _ _ _ _; refine keepA ?_) | refine own_keep ?_ | refine ap_old ?_))
    all_goals (conv => whnf)
    all_goals exact ⟨i + 1, [], hlt, by omega, rfl, ⟨rfl, rfl, rfl, rfl, rfl, rfl, trivial⟩, ⟨by rw [hsn]; exact (by repeat (first | exact List.mem_cons_self | apply List.mem_cons_of_mem)), (by repeat (first | exact List.mem_cons_self | apply List.mem_cons_of_mem)), trivial⟩, fun _ _ h => h⟩
  · obtain rfl : i = size := by omega
    have hgr : gridS i ((List.range i).map fun k => ((n.data.xs.getD (o * i + k) 0, (k : Int)) : Sp)) = denseT n o i := by unfold gridS denseT; rw [List.length_map, List.length_range, Nat.sub_self]; simp
    (repeat' ((conv => whnf) <;> first | (show Wp _ _ _ _ _ _ _; refine Wp.go tabOk rfl ?_) | (show @cmpK _ _ _; (first | refine cmpY ?_ | refine cmpN ?_ | (refine cmp_both ?_ ?_ <;> intro _))) | (show wrapK _ _ _; refine wrapA ?_) | (show leK _ _ _; refine leA ?_) | (show roomK _ _ _; refine roomA ?_) | (show ltK _ _ _; refine ltA ?_) | (show _ ∧ _; refine ⟨?_, ?_⟩) | (show keepK _ _ _ _ _; refine keepA ?_) | refine own_keep ?_ | refine ap_old ?_))
    conv => whnf
    exact terms_end hgr (fun _ _ h => h) rfl (by repeat (first | exact List.mem_cons_self | apply List.mem_cons_of_mem)) (by simp [denseT])
end Go.Proofs.Ytdmkdogakbipbaa

/- IQ -/
namespace Go.Proofs.Ytdmkdogakbipbaa
abbrev dtIQ0 : Go.SX.DT := (.take 0 (.take 1 (.take 2 (.take 3 (.take 4 (.take 5 (.take 6 (.take 7 (.take 8 (.take 9 (.take 10 (.take 11 (.take 12 (.take 13 (.take 14 (.take 15 (.take 16 (.take 17 (.take 18 (.take 19 (.take 20 (.take 21 (.take 22 (.take 23 (.take 24 (.take 25 (.take 26 (.take 27 (.take 28 (.take 29 (.take 30 (.take 31 (.take 32 (.take 33 (.take 34 (.take 35 (.take 36 (.take 37 (.take 38 (.one 39 (.one 40 (.take 41 (.done)))))))))))))))))))))))))))))))))))))))))))
open Go.SX Go.RowKit
def convTerm (d : List Int) (k1 k2 k3 i1 i2 o : Int) (i : Nat) : Sp :=
  (d.getD (o / (i2 - k3 + 1) / (i1 - k2 + 1) * k1 * k2 * k3 + i).toNat 0, ((i : Int) / k3 / k2 * i1 + o / (i2 - k3 + 1) % (i1 - k2 + 1) + (i : Int) / k3 % k2) * i2 + o % (i2 - k3 + 1) + (i : Int) % k3)
def convT (d : List Int) (k1 k2 k3 i1 i2 o : Int) : List Sp := (List.range (k1 * k2 * k3).toNat).map (convTerm d k1 k2 k3 i1 i2 o)
structure ConvOk (n : NodeV) (t : IntsV) (k0 k1 k2 k3 i1 i2 o : Int) : Prop where
  h_shape : n.shape.xs = [k0, k1, k2, k3]
  h_inn : ∃ i0, t.xs = [i0, i1, i2]
  h_k1 : 1 ≤ k1 ∧ k1 ≤ 64
  h_k2 : 1 ≤ k2 ∧ k2 ≤ i1
  h_k3 : 1 ≤ k3 ∧ k3 ≤ i2
  h_i1 : i1 ≤ 64
  h_i2 : i2 ≤ 64
  h_data : (n.data.xs.length : Int) = k0 * k1 * k2 * k3
  h_k0 : k0 ≤ 64
  h_o : 0 ≤ o ∧ o ≤ 64
  h_k : o / (i2 - k3 + 1) / (i1 - k2 + 1) < k0
theorem sp_snoc (l : List Sp) (s : Sp) {i m : Nat} {T : TypeId} {H : Heap} (hm : m = l.length) : (i, Ent.rows (spRows (l ++ [s])) 2 T) ∈ (i, Ent.rows (List.take m (spRows l) ++ [[.int .i64 s.1, .int .i64 s.2]]) 2 T) :: H := by
  subst hm
  rw [show spRows (l ++ [s]) = List.take l.length (spRows l) ++ [[.int .i64 s.1, .int .i64 s.2]] by rw [List.take_of_length_le (by rw [spRows_length]; exact Nat.le_refl _)]; simp [spRows]]
  exact List.mem_cons_self
theorem div_bd {x y : Int} (hx : 0 ≤ x) (hy : 0 < y) : 0 ≤ x / y ∧ x / y ≤ x ∧ 0 ≤ x % y ∧ x % y < y := ⟨Int.ediv_nonneg hx (by omega), Int.ediv_le_self y hx, Int.emod_nonneg x (by omega), Int.emod_lt_of_pos x hy⟩
set_option maxRecDepth 20000 in
set_option maxHeartbeats 2000000 in
theorem conv_any (w : World) (n : NodeV) (t : IntsV) (hd : n.data.ok w) (hsh : n.shape.ok w) (ht : t.ok w) (fnV : Value) (c k0 k1 k2 k3 i1 i2 o : Int) (h : ConvOk n t k0 k1 k2 k3 i1 i2 o) : Calls Try.prog 76 #[placeV n t.val fnV c, .int .i64 o] w (TermsPost w (convT n.data.xs k1 k2 k3 i1 i2 o)) := by
  obtain ⟨hs, ⟨i0, hi⟩, b1, b2, b3, bi1, bi2, hdl, b0, bo, bk⟩ := h
  obtain ⟨us, hus⟩ := hsh.base (by rw [hs]; simp)
  obtain ⟨ut, hut⟩ := ht.base (by rw [hi]; simp)
  have hsr : ∀ (R : Nat → Prop) w', (baseA w).holds R w' → RowsI w' (some us) 1 (ints [k0, k1, k2, k3]) := fun R w' h => by rw [← hus, ← hs]; exact rows_base h hsh.rows
  have htr : ∀ (R : Nat → Prop) w', (baseA w).holds R w' → RowsI w' (some ut) 1 (ints [i0, i1, i2]) := fun R w' h => by rw [← hut, ← hi]; exact rows_base h ht.rows
  have hsl : n.shape.xs.length = 4 := by rw [hs]; rfl
  have htl : t.xs.length = 3 := by rw [hi]; rfl
  have hW : 0 < i2 - k3 + 1 := by omega
  have hH : 0 < i1 - k2 + 1 := by omega
  obtain ⟨d1, d2, d3, d4⟩ := div_bd bo.1 hW
  obtain ⟨d5, d6, d7, d8⟩ := div_bd d1 hH
  have m12 := mul_bd (x := k1) (y := k2) (A := 64) (B := 64) (by omega) (by omega)
  have m123 := mul_bd (x := k1 * k2) (y := k3) (A := 64 * 64) (B := 64) m12 (by omega)
  have n12 := Int.mul_pos (show 0 < k1 by omega) (show 0 < k2 by omega)
  have n123 := Int.mul_pos n12 (show 0 < k3 by omega)
  obtain ⟨Q, hQ⟩ : ∃ Q : Nat, k1 * k2 * k3 = Q := ⟨(k1 * k2 * k3).toNat, by omega⟩
  have hcT : convT n.data.xs k1 k2 k3 i1 i2 o = (List.range Q).map (convTerm n.data.xs k1 k2 k3 i1 i2 o) := by unfold convT; rw [hQ]; rfl
  rw [hcT]
  refine calls_of tab tabOk Try.func76 rfl rfl rfl [] (fun _ => ⟨none, 0⟩) [.agg [.c (.int .i64 n.kind), .c (.int .i64 n.a), .c (.int .i64 n.b), .c n.shape.val, .c (.int .i64 n.lo), .c (.int .i64 n.hi), .c (.int .i64 n.size), .c n.data.val, .c n.bias.val, .c t.val, .c fnV, .c (.int .i64 c)], .c (.int .i64 o)] [] (baseA w) 0 rfl rfl (by show 2 ≤ _; decide) (abs_base w) ?_
  (repeat' ((conv => whnf) <;> first | (show idxK _ _ _ _ _; (first | refine idx_of us 1 hus rfl (by rw [hsl]; decide) ?_ | refine idx_of us 2 hus rfl (by rw [hsl]; decide) ?_ | refine idx_of us 3 hus rfl (by rw [hsl]; decide) ?_ | refine idx_of ut 1 hut rfl (by rw [htl]; decide) ?_ | refine idx_of ut 2 hut rfl (by rw [htl]; decide) ?_)) | (show roK _ _ _; (first | refine ro_row0 hsr [.int .i64 k1] (.int .i64 k1) (j := 1) rfl rfl ?_ | refine ro_row0 hsr [.int .i64 k2] (.int .i64 k2) (j := 2) rfl rfl ?_ | refine ro_row0 hsr [.int .i64 k3] (.int .i64 k3) (j := 3) rfl rfl ?_ | refine ro_row0 htr [.int .i64 i1] (.int .i64 i1) (j := 1) rfl rfl ?_ | refine ro_row0 htr [.int .i64 i2] (.int .i64 i2) (j := 2) rfl rfl ?_)) | (show remK _ _ _; refine rem_pos (by omega) (by omega) ?_) | (show divK _ _ _ _; refine div_pos rfl (by omega) (by omega) (by omega) ?_) | (show drawK _ 10 _ _ _ _ _ _; refine draw_tree tabOk mixed [] _ dtIQ0 (by kernel_rfl) (by kernel_rfl) (by kernel_rfl) (List.Sublist.refl _) ?_) | (show drawK _ _ _ _ _ _ _ _; refine draw_quiet tabOk mixed (by kernel_rfl) ?_) | (show Wp _ _ _ _ _ _ _; refine Wp.go tabOk rfl ?_) | (show @cmpK _ _ _; (first | refine cmpY ?_ | refine cmpN ?_ | (refine cmp_both ?_ ?_ <;> intro _))) | (show wrapK _ _ _; refine wrapA ?_) | (show leK _ _ _; refine leA ?_) | (show roomK _ _ _; refine roomA ?_) | (show ltK _ _ _; refine ltA ?_) | (show _ ∧ _; refine ⟨?_, ?_⟩) | (show keepK _ _ _ _ _; refine keepA ?_) | refine own_keep ?_ | refine ap_old ?_))
  rw [hQ]
  have mK1 := mul_bd (x := o / (i2 - k3 + 1) / (i1 - k2 + 1)) (y := k1) (A := 64) (B := 64) (by omega) (by omega)
  have mK2 := mul_bd (x := o / (i2 - k3 + 1) / (i1 - k2 + 1) * k1) (y := k2) (A := 64 * 64) (B := 64) mK1 (by omega)
  have mK3 := mul_bd (x := o / (i2 - k3 + 1) / (i1 - k2 + 1) * k1 * k2) (y := k3) (A := 64 * 64 * 64) (B := 64) mK2 (by omega)
  have e1 : o / (i2 - k3 + 1) / (i1 - k2 + 1) * k1 * k2 * k3 = o / (i2 - k3 + 1) / (i1 - k2 + 1) * (Q : Int) := by rw [← hQ]; grind
  have e2 : k0 * k1 * k2 * k3 = k0 * (Q : Int) := by rw [← hQ]; grind
  have e3 : (o / (i2 - k3 + 1) / (i1 - k2 + 1) + 1) * (Q : Int) ≤ k0 * (Q : Int) := Int.mul_le_mul_of_nonneg_right (by omega) (by omega)
  rw [Int.add_mul, Int.one_mul] at e3
  have e4 : 0 ≤ o / (i2 - k3 + 1) / (i1 - k2 + 1) * (Q : Int) := Int.mul_nonneg d5 (by omega)
  refine Wp.loop (σ := Nat × Nat) 2 (fun ⟨i, m⟩ => [(2, .lp 0 0 0 0), (5, .c (.int .i64 k2)), (6, .c (.int .i64 k3)), (9, .c (.int .i64 (o % (i2 - k3 + 1)))), (10, .c (.int .i64 (o / (i2 - k3 + 1) % (i1 - k2 + 1)))), (11, .c (.int .i64 (o / (i2 - k3 + 1) / (i1 - k2 + 1)))), (12, .os 1 m), (62, .c (.int .i64 Q)), (63, .c (.int .i64 i))]) (fun ⟨i, m⟩ => [(1, .rows (spRows ((List.range i).map (convTerm n.data.xs k1 k2 k3 i1 i2 o))) 2 110), (0, .box [.c (.int .i64 n.kind), .c (.int .i64 n.a), .c (.int .i64 n.b), .c n.shape.val, .c (.int .i64 n.lo), .c (.int .i64 n.hi), .c (.int .i64 n.size), .c n.data.val, .c n.bias.val, .c t.val, .c fnV, .c (.int .i64 c)] 75)]) (fun _ => baseA w)
    (fun ⟨i, m⟩ => i ≤ Q ∧ m = i) (fun s => Q - s.1) (0, 0) [(1, none)] (by decide) (fun s => ⟨rfl, rfl⟩) ⟨Nat.zero_le _, rfl⟩ ⟨rfl, ⟨rfl, rfl, rfl, rfl, rfl, rfl, rfl, rfl, rfl, trivial⟩, ⟨rfl, (by repeat (first | exact List.mem_cons_self | apply List.mem_cons_of_mem)), trivial⟩, fun _ _ h => h⟩ ?_
  rintro ⟨i, m⟩ ⟨hiQ, hmi⟩
  subst hmi
  have hil : ((List.range m).map (convTerm n.data.xs k1 k2 k3 i1 i2 o)).length = m := by simp
  by_cases hlt : m < Q
  · have hsn : (List.range (m + 1)).map (convTerm n.data.xs k1 k2 k3 i1 i2 o) = (List.range m).map (convTerm n.data.xs k1 k2 k3 i1 i2 o) ++ [convTerm n.data.xs k1 k2 k3 i1 i2 o m] := by rw [List.range_succ, List.map_append]; rfl
    obtain ⟨c1, c2, c3, c4⟩ := div_bd (x := (m : Int)) (y := k3) (by omega) (by omega)
    obtain ⟨c5, c6, c7, c8⟩ := div_bd (x := (m : Int) / k3) (y := k2) c1 (by omega)
    have p1 := mul_bd (x := (m : Int) / k3 / k2) (y := i1) (A := 262144) (B := 64) (by omega) (by omega)
    have p2 := mul_bd (x := (m : Int) / k3 / k2 * i1 + o / (i2 - k3 + 1) % (i1 - k2 + 1) + (m : Int) / k3 % k2) (y := i2) (A := 16777400) (B := 64) (by omega) (by omega)
    obtain ⟨ud, hud⟩ := hd.base (by omega)
    have hdr : ∀ (R : Nat → Prop) w', (baseA w).holds R w' → RowsI w' (some ud) 1 (ints n.data.xs) := fun R w' h => by rw [← hud]; exact rows_base h hd.rows
    (repeat' ((conv => whnf) <;> first | (show keepK _ _ _ _ _; (refine keep_of (by repeat (first | exact List.Sublist.refl _ | exact List.nil_sublist _ | apply List.Sublist.cons_cons | apply List.Sublist.cons)) (fun _ _ h => h) ?_)) | (show drawK _ 10 _ _ _ _ _ _; (refine draw_tree tabOk mixed [] [(0, .box [.c (.int .i64 n.kind), .c (.int .i64 n.a), .c (.int .i64 n.b), .c n.shape.val, .c (.int .i64 n.lo), .c (.int .i64 n.hi), .c (.int .i64 n.size), .c n.data.val, .c n.bias.val, .c t.val, .c fnV, .c (.int .i64 c)] 75)] (.take 0 (.take 1 (.take 2 (.take 3 (.take 4 (.take 5 (.take 6 (.take 7 (.take 8 (.take 9 (.take 10 (.take 11 (.take 12 (.take 13 (.take 14 (.take 15 (.take 16 (.take 17 (.take 18 (.take 19 (.take 20 (.take 21 (.take 22 (.take 23 (.take 24 (.take 25 (.take 26 (.take 27 (.take 28 (.take 29 (.take 30 (.take 31 (.take 32 (.take 33 (.take 34 (.take 35 (.take 36 (.take 37 (.take 38 (.one 39 (.one 40 (.take 41 (.done))))))))))))))))))))))))))))))))))))))))))) (by kernel_rfl) (by kernel_rfl) (by kernel_rfl) (by repeat (first | exact List.Sublist.refl _ | exact List.nil_sublist _ | apply List.Sublist.cons_cons | apply List.Sublist.cons)) ?_)) | (show idxK _ _ _ _ _; (first | refine idx_of us 1 hus rfl (by rw [hsl]; decide) ?_ | refine idx_of us 2 hus rfl (by rw [hsl]; decide) ?_ | refine idx_of us 3 hus rfl (by rw [hsl]; decide) ?_ | refine idx_of ut 1 hut rfl (by rw [htl]; decide) ?_ | refine idx_of ut 2 hut rfl (by rw [htl]; decide) ?_)) | (show roK _ _ _; (first | refine ro_row0 hsr [.int .i64 k1] (.int .i64 k1) (j := 1) rfl rfl ?_ | refine ro_row0 hsr [.int .i64 k2] (.int .i64 k2) (j := 2) rfl rfl ?_ | refine ro_row0 hsr [.int .i64 k3] (.int .i64 k3) (j := 3) rfl rfl ?_ | refine ro_row0 htr [.int .i64 i1] (.int .i64 i1) (j := 1) rfl rfl ?_ | refine ro_row0 htr [.int .i64 i2] (.int .i64 i2) (j := 2) rfl rfl ?_)) | (show idxK _ _ _ _ _; refine idx_z hud (by omega) (by omega) ?_) | (show roK _ _ _; refine ro_int hdr (j := (o / (i2 - k3 + 1) / (i1 - k2 + 1) * k1 * k2 * k3 + (m : Int)).toNat) (by omega) ?_) | (show remK _ _ _; refine rem_pos (by omega) (by omega) ?_) | (show divK _ _ _ _; refine div_pos rfl (by omega) (by omega) (by omega) ?_) | (show leK _ _ _; (refine le_of (by rw [spRows_length, hil]; exact Nat.le_refl _) ?_)) | (show roomK _ _ _; (refine room_of (by show (m + 1) * 16 ≤ 140737488355328; omega) ?_)) | (show drawK _ _ _ _ _ _ _ _; refine draw_quiet tabOk mixed (by kernel_rfl) ?_) | (show Wp _ _ _ _ _ _ _; refine Wp.go tabOk rfl ?_) | (show @cmpK _ _ _; (first | refine cmpY ?_ | refine cmpN ?_ | (refine cmp_both ?_ ?_ <;> intro _))) | (show wrapK _ _ _; refine wrapA ?_) | (show leK _ _ _; refine leA ?_) | (show roomK _ _ _; refine roomA ?_) | (show ltK _ _ _; refine ltA ?_) | (show _ ∧ _; refine ⟨?_, ?_⟩) | (show keepK _ _ _ _ _; refine keepA ?_) | refine own_keep ?_ | refine ap_old ?_))
    all_goals (conv => whnf)
    all_goals exact ⟨(m + 1, m + 1), [(1, some 3)], ⟨hlt, rfl⟩, by simp only; omega, rfl, ⟨rfl, rfl, rfl, rfl, rfl, rfl, rfl, rfl, rfl, trivial⟩, ⟨by
      show (3, Ent.rows (spRows ((List.range (m + 1)).map (convTerm n.data.xs k1 k2 k3 i1 i2 o))) 2 110) ∈ _
      rw [hsn]; exact sp_snoc _ _ hil.symm, (by repeat (first | exact List.mem_cons_self | apply List.mem_cons_of_mem)), trivial⟩, fun _ _ h => h⟩
  · obtain rfl : m = Q := by omega
    (repeat' ((conv => whnf) <;> first | (show drawK _ 10 _ _ _ _ _ _; refine draw_tree tabOk mixed [] _ dtIQ0 (by kernel_rfl) (by kernel_rfl) (by kernel_rfl) (List.Sublist.refl _) ?_) | (show drawK _ _ _ _ _ _ _ _; refine draw_quiet tabOk mixed (by kernel_rfl) ?_) | (show Wp _ _ _ _ _ _ _; refine Wp.go tabOk rfl ?_) | (show @cmpK _ _ _; (first | refine cmpY ?_ | refine cmpN ?_ | (refine cmp_both ?_ ?_ <;> intro _))) | (show wrapK _ _ _; refine wrapA ?_) | (show leK _ _ _; refine leA ?_) | (show roomK _ _ _; refine roomA ?_) | (show ltK _ _ _; refine ltA ?_) | (show _ ∧ _; refine ⟨?_, ?_⟩) | (show keepK _ _ _ _ _; refine keepA ?_) | refine own_keep ?_ | refine ap_old ?_))
    conv => whnf
    exact terms_end rfl (fun _ _ h => h) rfl (by repeat (first | exact List.mem_cons_self | apply List.mem_cons_of_mem)) hil.symm
end Go.Proofs.Ytdmkdogakbipbaa

/- IR -/
namespace Go.Proofs.Ytdmkdogakbipbaa
abbrev dtIR0 : Go.SX.DT := (.take 0 (.take 1 (.take 2 (.take 3 (.take 4 (.take 5 (.take 6 (.take 7 (.take 8 (.take 9 (.take 10 (.take 11 (.take 12 (.take 13 (.take 14 (.take 15 (.take 16 (.take 17 (.take 18 (.take 19 (.take 20 (.take 21 (.take 22 (.take 23 (.take 24 (.take 25 (.take 26 (.take 27 (.take 28 (.take 29 (.take 30 (.take 31 (.take 32 (.take 33 (.take 34 (.take 35 (.take 36 (.one 37 (.one 38 (.take 39 (.done)))))))))))))))))))))))))))))))))))))))))
open Go.SX Go.RowKit
def poolTerm (z i1 i2 o : Int) (i : Nat) : Sp :=
  (1, (o / (i2 / z) / (i1 / z) * i1 + o / (i2 / z) % (i1 / z) * z + (i : Int) / z) * i2 + o % (i2 / z) * z + (i : Int) % z)
def poolT (z i1 i2 o : Int) : List Sp := (List.range (z * z).toNat).map (poolTerm z i1 i2 o)
structure PoolOk (n : NodeV) (t : IntsV) (i1 i2 o : Int) : Prop where
  h_inn : ∃ i0, t.xs = [i0, i1, i2]
  h_z1 : 1 ≤ n.size ∧ n.size ≤ i1
  h_z2 : n.size ≤ i2
  h_i1 : i1 ≤ 64
  h_i2 : i2 ≤ 64
  h_o : 0 ≤ o ∧ o ≤ 64
theorem div_pos1 {x y : Int} (hy : 0 < y) (h : y ≤ x) : 1 ≤ x / y := by
  have := Int.ediv_le_ediv hy h
  rwa [Int.ediv_self (by omega)] at this
set_option maxRecDepth 20000 in
set_option maxHeartbeats 2000000 in
theorem pool_any (w : World) (n : NodeV) (t : IntsV) (ht : t.ok w) (fnV : Value) (c i1 i2 o : Int) (h : PoolOk n t i1 i2 o) : Calls Try.prog 77 #[placeV n t.val fnV c, .int .i64 o] w (TermsPost w (poolT n.size i1 i2 o)) := by
  obtain ⟨⟨i0, hi⟩, bz1, bz2, bi1, bi2, bo⟩ := h
  obtain ⟨ut, hut⟩ := ht.base (by rw [hi]; simp)
  have htr : ∀ (R : Nat → Prop) w', (baseA w).holds R w' → RowsI w' (some ut) 1 (ints [i0, i1, i2]) := fun R w' h => by rw [← hut, ← hi]; exact rows_base h ht.rows
  have htl : t.xs.length = 3 := by rw [hi]; rfl
  have hW := div_pos1 (x := i2) (y := n.size) (by omega) bz2
  have hH := div_pos1 (x := i1) (y := n.size) (by omega) bz1.2
  obtain ⟨a1, a2, _, _⟩ := div_bd (x := i2) (y := n.size) (by omega) (by omega)
  obtain ⟨a5, a6, _, _⟩ := div_bd (x := i1) (y := n.size) (by omega) (by omega)
  obtain ⟨d1, d2, d3, d4⟩ := div_bd (x := o) (y := i2 / n.size) bo.1 (by omega)
  obtain ⟨d5, d6, d7, d8⟩ := div_bd (x := o / (i2 / n.size)) (y := i1 / n.size) d1 (by omega)
  have m1 := mul_bd (x := n.size) (y := n.size) (A := 64) (B := 64) (by omega) (by omega)
  have m2 := Int.mul_pos (show 0 < n.size by omega) (show 0 < n.size by omega)
  have m3 := mul_bd (x := o / (i2 / n.size) / (i1 / n.size)) (y := i1) (A := 64) (B := 64) (by omega) (by omega)
  have m4 := mul_bd (x := o / (i2 / n.size) % (i1 / n.size)) (y := n.size) (A := 64) (B := 64) (by omega) (by omega)
  have m5 := mul_bd (x := o % (i2 / n.size)) (y := n.size) (A := 64) (B := 64) (by omega) (by omega)
  obtain ⟨Q, hQ⟩ : ∃ Q : Nat, n.size * n.size = Q := ⟨(n.size * n.size).toNat, by omega⟩
  have hcT : poolT n.size i1 i2 o = (List.range Q).map (poolTerm n.size i1 i2 o) := by unfold poolT; rw [hQ]; rfl
  rw [hcT]
  refine calls_of tab tabOk Try.func77 rfl rfl rfl [] (fun _ => ⟨none, 0⟩) [.agg [.c (.int .i64 n.kind), .c (.int .i64 n.a), .c (.int .i64 n.b), .c n.shape.val, .c (.int .i64 n.lo), .c (.int .i64 n.hi), .c (.int .i64 n.size), .c n.data.val, .c n.bias.val, .c t.val, .c fnV, .c (.int .i64 c)], .c (.int .i64 o)] [] (baseA w) 0 rfl rfl (by show 2 ≤ _; decide) (abs_base w) ?_
  (repeat' ((conv => whnf) <;> first | (show idxK _ _ _ _ _; (first | refine idx_of ut 1 hut rfl (by rw [htl]; decide) ?_ | refine idx_of ut 2 hut rfl (by rw [htl]; decide) ?_)) | (show roK _ _ _; (first | refine ro_row0 htr [.int .i64 i1] (.int .i64 i1) (j := 1) rfl rfl ?_ | refine ro_row0 htr [.int .i64 i2] (.int .i64 i2) (j := 2) rfl rfl ?_)) | (show remK _ _ _; refine rem_pos (by omega) (by omega) ?_) | (show divK _ _ _ _; refine div_pos rfl (by omega) (by omega) (by omega) ?_) | (show drawK _ 7 _ _ _ _ _ _; refine draw_tree tabOk mixed [] _ dtIR0 (by kernel_rfl) (by kernel_rfl) (by kernel_rfl) (List.Sublist.refl _) ?_) | (show drawK _ _ _ _ _ _ _ _; refine draw_quiet tabOk mixed (by kernel_rfl) ?_) | (show Wp _ _ _ _ _ _ _; refine Wp.go tabOk rfl ?_) | (show @cmpK _ _ _; (first | refine cmpY ?_ | refine cmpN ?_ | (refine cmp_both ?_ ?_ <;> intro _))) | (show wrapK _ _ _; refine wrapA ?_) | (show leK _ _ _; refine leA ?_) | (show roomK _ _ _; refine roomA ?_) | (show ltK _ _ _; refine ltA ?_) | (show _ ∧ _; refine ⟨?_, ?_⟩) | (show keepK _ _ _ _ _; refine keepA ?_) | refine own_keep ?_ | refine ap_old ?_))
  rw [hQ]
  refine Wp.loop (σ := Nat × Nat) 2 (fun ⟨i, m⟩ => [(2, .lp 0 0 0 0), (7, .c (.int .i64 (o % (i2 / n.size)))), (8, .c (.int .i64 (o / (i2 / n.size) % (i1 / n.size)))), (9, .c (.int .i64 (o / (i2 / n.size) / (i1 / n.size)))), (10, .os 1 m), (47, .c (.int .i64 Q)), (48, .c (.int .i64 i))]) (fun ⟨i, m⟩ => [(1, .rows (spRows ((List.range i).map (poolTerm n.size i1 i2 o))) 2 110), (0, .box [.c (.int .i64 n.kind), .c (.int .i64 n.a), .c (.int .i64 n.b), .c n.shape.val, .c (.int .i64 n.lo), .c (.int .i64 n.hi), .c (.int .i64 n.size), .c n.data.val, .c n.bias.val, .c t.val, .c fnV, .c (.int .i64 c)] 75)]) (fun _ => baseA w)
    (fun ⟨i, m⟩ => i ≤ Q ∧ m = i) (fun s => Q - s.1) (0, 0) [(1, none)] (by decide) (fun s => ⟨rfl, rfl⟩) ⟨Nat.zero_le _, rfl⟩ ⟨rfl, ⟨rfl, rfl, rfl, rfl, rfl, rfl, rfl, trivial⟩, ⟨rfl, (by repeat (first | exact List.mem_cons_self | apply List.mem_cons_of_mem)), trivial⟩, fun _ _ h => h⟩ ?_
  rintro ⟨i, m⟩ ⟨hiQ, hmi⟩
  subst hmi
  have hil : ((List.range m).map (poolTerm n.size i1 i2 o)).length = m := by simp
  by_cases hlt : m < Q
  · have hsn : (List.range (m + 1)).map (poolTerm n.size i1 i2 o) = (List.range m).map (poolTerm n.size i1 i2 o) ++ [poolTerm n.size i1 i2 o m] := by rw [List.range_succ, List.map_append]; rfl
    obtain ⟨c1, c2, c3, c4⟩ := div_bd (x := (m : Int)) (y := n.size) (by omega) (by omega)
    have p2 := mul_bd (x := o / (i2 / n.size) / (i1 / n.size) * i1 + o / (i2 / n.size) % (i1 / n.size) * n.size + (m : Int) / n.size) (y := i2) (A := 100000) (B := 64) (by omega) (by omega)
    (repeat' ((conv => whnf) <;> first | (show keepK _ _ _ _ _; (refine keep_of (by repeat (first | exact List.Sublist.refl _ | exact List.nil_sublist _ | apply List.Sublist.cons_cons | apply List.Sublist.cons)) (fun _ _ h => h) ?_)) | (show drawK _ 7 _ _ _ _ _ _; (refine draw_tree tabOk mixed [] [(0, .box [.c (.int .i64 n.kind), .c (.int .i64 n.a), .c (.int .i64 n.b), .c n.shape.val, .c (.int .i64 n.lo), .c (.int .i64 n.hi), .c (.int .i64 n.size), .c n.data.val, .c n.bias.val, .c t.val, .c fnV, .c (.int .i64 c)] 75)] (.take 0 (.take 1 (.take 2 (.take 3 (.take 4 (.take 5 (.take 6 (.take 7 (.take 8 (.take 9 (.take 10 (.take 11 (.take 12 (.take 13 (.take 14 (.take 15 (.take 16 (.take 17 (.take 18 (.take 19 (.take 20 (.take 21 (.take 22 (.take 23 (.take 24 (.take 25 (.take 26 (.take 27 (.take 28 (.take 29 (.take 30 (.take 31 (.take 32 (.take 33 (.take 34 (.take 35 (.take 36 (.one 37 (.one 38 (.take 39 (.done))))))))))))))))))))))))))))))))))))))))) (by kernel_rfl) (by kernel_rfl) (by kernel_rfl) (by repeat (first | exact List.Sublist.refl _ | exact List.nil_sublist _ | apply List.Sublist.cons_cons | apply List.Sublist.cons)) ?_)) | (show idxK _ _ _ _ _; (first | refine idx_of ut 1 hut rfl (by rw [htl]; decide) ?_ | refine idx_of ut 2 hut rfl (by rw [htl]; decide) ?_)) | (show roK _ _ _; (first | refine ro_row0 htr [.int .i64 i1] (.int .i64 i1) (j := 1) rfl rfl ?_ | refine ro_row0 htr [.int .i64 i2] (.int .i64 i2) (j := 2) rfl rfl ?_)) | (show remK _ _ _; refine rem_pos (by omega) (by omega) ?_) | (show divK _ _ _ _; refine div_pos rfl (by omega) (by omega) (by omega) ?_) | (show leK _ _ _; (refine le_of (by rw [spRows_length, hil]; exact Nat.le_refl _) ?_)) | (show roomK _ _ _; (refine room_of (by show (m + 1) * 16 ≤ 140737488355328; omega) ?_)) | (show drawK _ _ _ _ _ _ _ _; refine draw_quiet tabOk mixed (by kernel_rfl) ?_) | (show Wp _ _ _ _ _ _ _; refine Wp.go tabOk rfl ?_) | (show @cmpK _ _ _; (first | refine cmpY ?_ | refine cmpN ?_ | (refine cmp_both ?_ ?_ <;> intro _))) | (show wrapK _ _ _; refine wrapA ?_) | (show leK _ _ _; refine leA ?_) | (show roomK _ _ _; refine roomA ?_) | (show ltK _ _ _; refine ltA ?_) | (show _ ∧ _; refine ⟨?_, ?_⟩) | (show keepK _ _ _ _ _; refine keepA ?_) | refine own_keep ?_ | refine ap_old ?_))
    all_goals (conv => whnf)
    all_goals exact ⟨(m + 1, m + 1), [(1, some 3)], ⟨hlt, rfl⟩, by simp only; omega, rfl, ⟨rfl, rfl, rfl, rfl, rfl, rfl, rfl, trivial⟩, ⟨by
      show (3, Ent.rows (spRows ((List.range (m + 1)).map (poolTerm n.size i1 i2 o))) 2 110) ∈ _
      rw [hsn]; exact sp_snoc _ _ hil.symm, (by repeat (first | exact List.mem_cons_self | apply List.mem_cons_of_mem)), trivial⟩, fun _ _ h => h⟩
  · obtain rfl : m = Q := by omega
    (repeat' ((conv => whnf) <;> first | (show drawK _ 7 _ _ _ _ _ _; refine draw_tree tabOk mixed [] _ dtIR0 (by kernel_rfl) (by kernel_rfl) (by kernel_rfl) (List.Sublist.refl _) ?_) | (show drawK _ _ _ _ _ _ _ _; refine draw_quiet tabOk mixed (by kernel_rfl) ?_) | (show Wp _ _ _ _ _ _ _; refine Wp.go tabOk rfl ?_) | (show @cmpK _ _ _; (first | refine cmpY ?_ | refine cmpN ?_ | (refine cmp_both ?_ ?_ <;> intro _))) | (show wrapK _ _ _; refine wrapA ?_) | (show leK _ _ _; refine leA ?_) | (show roomK _ _ _; refine roomA ?_) | (show ltK _ _ _; refine ltA ?_) | (show _ ∧ _; refine ⟨?_, ?_⟩) | (show keepK _ _ _ _ _; refine keepA ?_) | refine own_keep ?_ | refine ap_old ?_))
    conv => whnf
    exact terms_end rfl (fun _ _ h => h) rfl (by repeat (first | exact List.mem_cons_self | apply List.mem_cons_of_mem)) hil.symm
end Go.Proofs.Ytdmkdogakbipbaa

/- IS -/
namespace Go.Proofs.Ytdmkdogakbipbaa
open Go.SX Go.RowKit
theorem div_to {x y q : Int} {K : Int → Prop} (e : x / y = q) (h0 : 0 ≤ x) (h1 : x ≤ 9223372036854775807) (hy : 0 < y) (h : K q) : divK .i64 x y K := by
  subst e; exact div_pos rfl h0 h1 hy h
def biasI (n : NodeV) (cnt o : Nat) : Int := if n.kind = 3 then n.bias.xs.getD o 0 else if n.kind = 4 then n.bias.xs.getD (o / (cnt / n.bias.xs.length)) 0 else 0
def fLo (a : Sp) (s : Int) (t : Sp) : Int := s + min (t.1 * a.1) (t.1 * a.2)
def fHi (a : Sp) (s : Int) (t : Sp) : Int := s + max (t.1 * a.1) (t.1 * a.2)
def linPre (n : NodeV) (cnt k : Nat) (T : Nat → List Sp) (a : Sp) : List Int := (List.range k).flatMap fun o => [(T o).foldl (fLo a) (biasI n cnt o), (T o).foldl (fHi a) (biasI n cnt o)]
def linEnds (n : NodeV) (cnt : Nat) (T : Nat → List Sp) (a : Sp) : List Int := linPre n cnt cnt T a
theorem linPre_snoc (n : NodeV) (cnt k : Nat) (T : Nat → List Sp) (a : Sp) : linPre n cnt (k + 1) T a = linPre n cnt k T a ++ [(T k).foldl (fLo a) (biasI n cnt k), (T k).foldl (fHi a) (biasI n cnt k)] := by
  unfold linPre; rw [List.range_succ, List.flatMap_append]; simp
theorem linPre_len (n : NodeV) (cnt : Nat) (T : Nat → List Sp) (a : Sp) : ∀ k, (linPre n cnt k T a).length = 2 * k
  | 0 => rfl
  | k + 1 => by rw [linPre_snoc, List.length_append, linPre_len n cnt T a k]; rfl
theorem ints_two (l : List Int) (x y : Int) {i m : Nat} {T : TypeId} {H : Heap} (hm : m = l.length) : (i, Ent.rows (ints (l ++ [x, y])) 1 T) ∈ (i, Ent.rows (List.take m (ints l) ++ [[.int .i64 x], [.int .i64 y]]) 1 T) :: H := by
  subst hm
  rw [show ints (l ++ [x, y]) = List.take l.length (ints l) ++ [[.int .i64 x], [.int .i64 y]] by rw [List.take_of_length_le (by rw [ints_length]; exact Nat.le_refl _)]; simp [ints]]
  exact List.mem_cons_self
/-- what is known of the closure that tells terms -/
structure TermsOk (w : World) (F : FuncId) (P0 : Value) (cnt : Nat) (T : Nat → List Sp) : Prop where
  enter : ∀ ar w, (callFunc F ar).run Try.prog w = .ok (.enter F ar) w
  calls : ∀ R w', (baseA w).holds R w' → ∀ o, o < cnt → Calls Try.prog F #[P0, .int .i64 o] w' (TermsPost w' (T o))
  few : ∀ o, o < cnt → (T o).length ≤ 64
  bd : ∀ o, o < cnt → ∀ s ∈ T o, bd20 s.1
structure LinOk (w : World) (n : NodeV) (cnt : Nat) : Prop where
  kind : n.kind = 3 ∨ n.kind = 4 ∨ n.kind = 5
  bias : n.bias.ok w
  biasBd : ∀ x ∈ n.bias.xs, bd20 x
  few : cnt ≤ 64
  three : n.kind = 3 → n.bias.xs.length = cnt
  four : n.kind = 4 → 1 ≤ n.bias.xs.length ∧ n.bias.xs.length ≤ cnt ∧ ∀ o, o < cnt → o / (cnt / n.bias.xs.length) < n.bias.xs.length
theorem lin_bd {a : Sp} (ha : bd20 a.1 ∧ bd20 a.2) : ∀ {l : List Sp} {s : Int}, (∀ t ∈ l, bd20 t.1) → (s - l.length * 1099511627776 ≤ l.foldl (fLo a) s ∧ l.foldl (fLo a) s ≤ s + l.length * 1099511627776) ∧ (s - l.length * 1099511627776 ≤ l.foldl (fHi a) s ∧ l.foldl (fHi a) s ≤ s + l.length * 1099511627776)
  | [], s, _ => by simp
  | t :: r, s, h => by
    have h1 := mul_bd (A := 1048576) (B := 1048576) (h t List.mem_cons_self) ha.1
    have h2 := mul_bd (A := 1048576) (B := 1048576) (h t List.mem_cons_self) ha.2
    have g1 := lin_bd ha (l := r) (s := fLo a s t) (fun x hx => h x (List.mem_cons_of_mem _ hx))
    have g2 := lin_bd ha (l := r) (s := fHi a s t) (fun x hx => h x (List.mem_cons_of_mem _ hx))
    have e1 : fLo a s t = s + min (t.1 * a.1) (t.1 * a.2) := rfl
    have e2 : fHi a s t = s + max (t.1 * a.1) (t.1 * a.2) := rfl
    simp only [List.foldl_cons, List.length_cons]
    omega
end Go.Proofs.Ytdmkdogakbipbaa

/- IT -/
namespace Go.Proofs.Ytdmkdogakbipbaa
open Go.SX Go.RowKit
def fNum (av : List Int) (s : Int) (t : Sp) : Int := s + t.1 * av.getD t.2.toNat 0
def numsLin (n : NodeV) (cnt k : Nat) (T : Nat → List Sp) (av : List Int) : List Int := (List.range k).map fun o => (T o).foldl (fNum av) (biasI n cnt o)
theorem num_bd {av : List Int} (ha : ∀ x ∈ av, bd20 x) : ∀ {l : List Sp} {s : Int}, (∀ t ∈ l, bd20 t.1) → s - l.length * 1099511627776 ≤ l.foldl (fNum av) s ∧ l.foldl (fNum av) s ≤ s + l.length * 1099511627776
  | [], s, _ => by simp
  | t :: r, s, h => by
    have h1 := mul_bd (A := 1048576) (B := 1048576) (h t List.mem_cons_self) (getD_bd ha t.2.toNat)
    have g1 := num_bd ha (l := r) (s := fNum av s t) (fun x hx => h x (List.mem_cons_of_mem _ hx))
    have e1 : fNum av s t = s + t.1 * av.getD t.2.toNat 0 := rfl
    simp only [List.foldl_cons, List.length_cons]
    omega
end Go.Proofs.Ytdmkdogakbipbaa

/- IU -/
namespace Go.Proofs.Ytdmkdogakbipbaa
open Go.SX Go.RowKit
theorem entries3_valI {a b c : Int} (h : 0 < entries [a, b, c]) : entries [a, b, c] = a * b * c := by
  unfold entries at h ⊢
  rw [if_neg (by simp)] at h ⊢
  simp only [entLoop] at h ⊢
  split at h
  · simp at h
  · rename_i h1
    split at h
    · simp at h
    · rename_i h2
      split at h
      · simp at h
      · rename_i h3
        rw [if_neg h1, if_neg h2, if_neg h3]
        grind
theorem kernel4I {a b c e : Int} (h : 0 < kernelI [a, b, c, e]) : kernelI [a, b, c, e] = a * b * c * e := by
  unfold kernelI at h ⊢
  rw [if_pos (by simp)] at h ⊢
  simp only [kerLoop] at h ⊢
  split at h
  · simp at h
  · rename_i h1
    split at h
    · simp at h
    · rename_i h2
      split at h
      · simp at h
      · rename_i h3
        split at h
        · simp at h
        · rename_i h4
          rw [if_neg h1, if_neg h2, if_neg h3, if_neg h4]
          grind
theorem div2_lt {o k h w : Int} (ho : o < k * h * w) (hw : 0 < w) (hh : 0 < h) : o / w / h < k :=
  Int.ediv_lt_of_lt_mul hh (Int.ediv_lt_of_lt_mul hw ho)
theorem conv_at {d : List Int} {k1 k2 k3 i1 i2 o : Int} {i : Nat} (h1 : 1 ≤ k1) (h2 : 1 ≤ k2 ∧ k2 ≤ i1) (h3 : 1 ≤ k3 ∧ k3 ≤ i2) (ho : 0 ≤ o) (hi : (i : Int) < k1 * k2 * k3) : 0 ≤ (convTerm d k1 k2 k3 i1 i2 o i).2 ∧ (convTerm d k1 k2 k3 i1 i2 o i).2 < k1 * i1 * i2 := by
  have hW : 0 < i2 - k3 + 1 := by omega
  have hH : 0 < i1 - k2 + 1 := by omega
  obtain ⟨d1, d2, d3, d4⟩ := div_bd ho hW
  obtain ⟨d5, d6, d7, d8⟩ := div_bd d1 hH
  obtain ⟨c1, c2, c3, c4⟩ := div_bd (x := (i : Int)) (y := k3) (by omega) (by omega)
  obtain ⟨c5, c6, c7, c8⟩ := div_bd (x := (i : Int) / k3) (y := k2) c1 (by omega)
  have hc := div2_lt (o := (i : Int)) (k := k1) (h := k2) (w := k3) hi (by omega) (by omega)
  show 0 ≤ ((i : Int) / k3 / k2 * i1 + o / (i2 - k3 + 1) % (i1 - k2 + 1) + (i : Int) / k3 % k2) * i2 + o % (i2 - k3 + 1) + (i : Int) % k3 ∧ ((i : Int) / k3 / k2 * i1 + o / (i2 - k3 + 1) % (i1 - k2 + 1) + (i : Int) / k3 % k2) * i2 + o % (i2 - k3 + 1) + (i : Int) % k3 < k1 * i1 * i2
  generalize (i : Int) / k3 / k2 = C at *
  generalize o / (i2 - k3 + 1) % (i1 - k2 + 1) = Y at *
  generalize (i : Int) / k3 % k2 = DY at *
  generalize o % (i2 - k3 + 1) = X at *
  generalize (i : Int) % k3 = DX at *
  have e1 : C * i1 ≤ (k1 - 1) * i1 := Int.mul_le_mul_of_nonneg_right (by omega) (by omega)
  rw [Int.sub_mul, Int.one_mul] at e1
  have e0 : 0 ≤ C * i1 := Int.mul_nonneg c5 (by omega)
  have e2 : (C * i1 + Y + DY) * i2 ≤ (k1 * i1 - 1) * i2 := Int.mul_le_mul_of_nonneg_right (by omega) (by omega)
  rw [Int.sub_mul, Int.one_mul] at e2
  have e3 : 0 ≤ (C * i1 + Y + DY) * i2 := Int.mul_nonneg (by omega) (by omega)
  omega
theorem pool_at {z i0 i1 i2 o : Int} {i : Nat} (hz : 1 ≤ z) (h1 : z ≤ i1) (h2 : z ≤ i2) (m1 : i1 % z = 0) (m2 : i2 % z = 0) (ho : 0 ≤ o ∧ o < i0 * (i1 / z) * (i2 / z)) (hi : (i : Int) < z * z) : 0 ≤ (poolTerm z i1 i2 o i).2 ∧ (poolTerm z i1 i2 o i).2 < i0 * i1 * i2 := by
  have hW := div_pos1 (x := i2) (y := z) (by omega) h2
  have hH := div_pos1 (x := i1) (y := z) (by omega) h1
  have q1 := Int.mul_ediv_add_emod i1 z
  have q2 := Int.mul_ediv_add_emod i2 z
  obtain ⟨d1, d2, d3, d4⟩ := div_bd (x := o) (y := i2 / z) ho.1 (by omega)
  obtain ⟨d5, d6, d7, d8⟩ := div_bd (x := o / (i2 / z)) (y := i1 / z) d1 (by omega)
  obtain ⟨c1, c2, c3, c4⟩ := div_bd (x := (i : Int)) (y := z) (by omega) (by omega)
  have hdy : (i : Int) / z < z := Int.ediv_lt_of_lt_mul (by omega) hi
  have hc := div2_lt (o := o) (k := i0) (h := i1 / z) (w := i2 / z) ho.2 (by omega) (by omega)
  show 0 ≤ (o / (i2 / z) / (i1 / z) * i1 + o / (i2 / z) % (i1 / z) * z + (i : Int) / z) * i2 + o % (i2 / z) * z + (i : Int) % z ∧ (o / (i2 / z) / (i1 / z) * i1 + o / (i2 / z) % (i1 / z) * z + (i : Int) / z) * i2 + o % (i2 / z) * z + (i : Int) % z < i0 * i1 * i2
  generalize o / (i2 / z) / (i1 / z) = C at *
  generalize o / (i2 / z) % (i1 / z) = Y at *
  generalize o % (i2 / z) = X at *
  generalize (i : Int) / z = DY at *
  generalize (i : Int) % z = DX at *
  have y1 : Y * z ≤ (i1 / z - 1) * z := Int.mul_le_mul_of_nonneg_right (by omega) (by omega)
  have x1 : X * z ≤ (i2 / z - 1) * z := Int.mul_le_mul_of_nonneg_right (by omega) (by omega)
  have y2 : (i1 / z - 1) * z = z * (i1 / z) - z := by rw [Int.sub_mul, Int.one_mul, Int.mul_comm]
  have x2 : (i2 / z - 1) * z = z * (i2 / z) - z := by rw [Int.sub_mul, Int.one_mul, Int.mul_comm]
  have y0 : 0 ≤ Y * z := Int.mul_nonneg d7 (by omega)
  have x0 : 0 ≤ X * z := Int.mul_nonneg d3 (by omega)
  have y1' : Y * z ≤ i1 - z := by omega
  have x1' : X * z ≤ i2 - z := by omega
  have e1 : C * i1 ≤ (i0 - 1) * i1 := Int.mul_le_mul_of_nonneg_right (by omega) (by omega)
  rw [Int.sub_mul, Int.one_mul] at e1
  have e0 : 0 ≤ C * i1 := Int.mul_nonneg d5 (by omega)
  have e2 : (C * i1 + Y * z + DY) * i2 ≤ (i0 * i1 - 1) * i2 := Int.mul_le_mul_of_nonneg_right (by omega) (by omega)
  rw [Int.sub_mul, Int.one_mul] at e2
  have e3 : 0 ≤ (C * i1 + Y * z + DY) * i2 := Int.mul_nonneg (by omega) (by omega)
  omega
end Go.Proofs.Ytdmkdogakbipbaa

/- IV -/
namespace Go.Proofs.Ytdmkdogakbipbaa
open Go.SX Go.RowKit
def termsG (n : NodeV) (tl : List Int) (o : Nat) : List Sp :=
  if n.kind = 3 then denseT n o (entries tl).toNat
  else if n.kind = 4 then convT n.data.xs (n.shape.xs.getD 1 0) (n.shape.xs.getD 2 0) (n.shape.xs.getD 3 0) (tl.getD 1 0) (tl.getD 2 0) o
  else poolT n.size (tl.getD 1 0) (tl.getD 2 0) o
theorem form4 {n : NodeV} {at_ : Nat} (h : formB n at_ = true) (hk : n.kind = 4) : (n.data.xs.length : Int) = kernelI n.shape.xs ∧ (n.bias.xs.length : Int) = n.shape.xs.getD 0 0 := by
  unfold formB at h
  repeat (first | rw [if_pos (by omega)] at h | rw [if_neg (by omega)] at h)
  simp only [Bool.and_eq_true, decide_eq_true_eq] at h
  exact ⟨h.1.2, h.2⟩
theorem list4 {l : List Int} (h : l.length = 4) : l = [l.getD 0 0, l.getD 1 0, l.getD 2 0, l.getD 3 0] := by
  match l, h with
  | [a, b, c, d], _ => rfl
/-- what a node over weights, at its place, is known to be -/
structure LinIn (n : NodeV) (t : IntsV) (cnt : Nat) (F : FuncId) (P0 : Value) : Prop where
  fn : termsF n t.val cnt = .func (.func F) #[P0] #[]
  terms : ∀ w, t.ok w → n.ok w → TermsOk w F P0 cnt (termsG n t.xs)
  lin : ∀ w, n.ok w → LinOk w n cnt
  at_ : ∀ o, o < cnt → ∀ s ∈ termsG n t.xs o, 0 ≤ s.2 ∧ s.2 < entries t.xs
set_option maxHeartbeats 1000000 in
theorem lin_in {n : NodeV} {sh : List (List Int)} {s : List Int} {t : IntsV} {cnt : Nat} (hn : NodeIn n sh s) (hk : n.kind = 3 ∨ n.kind = 4 ∨ n.kind = 5) (ht : sh.getD n.a.toNat [] = t.xs) (hg : 0 < entries t.xs) (hgs : ∀ q ∈ sh, 0 < entries q) (hc : entries s = cnt) : ∃ F P0, LinIn n t cnt F P0 := by
  have hsh := hn.shape
  have hfo := formed_of hn.form
  have h4 := form4 hn.form
  obtain ⟨nd, nb, _, _, _⟩ := near_in hn.near
  have heb := (entries_bd t.xs).2
  have hcb : cnt ≤ 64 := by have := (entries_bd s).2; omega
  have hsp := (entries_bd s).1
  rcases hk with hk | hk | hk
  · unfold shapeO at hsh
    rw [if_neg (by omega), if_pos hk, ht] at hsh
    by_cases hdl : (n.data.xs.length : Int) = n.bias.xs.length * entries t.xs
    · rw [if_pos hdl, Option.some.injEq] at hsh
      obtain ⟨b1, b2⟩ := hfo.bias hk
      have he1 : entries [(n.bias.xs.length : Int)] = n.bias.xs.length := by
        unfold entries
        rw [if_neg (by simp)]
        simp only [entLoop]
        rw [if_neg (by omega)]
        omega
      rw [← hsh, he1] at hc
      have hbl : n.bias.xs.length = cnt := by omega
      obtain ⟨size, hsz⟩ : ∃ size : Nat, entries t.xs = size := ⟨(entries t.xs).toNat, by omega⟩
      have hdl' : n.data.xs.length = n.bias.xs.length * size := by
        rw [hsz, ← Int.natCast_mul] at hdl
        exact Int.ofNat.inj hdl
      have hG : ∀ o, termsG n t.xs o = denseT n o size := fun o => by unfold termsG; rw [if_pos hk, hsz]; rfl
      refine ⟨_, _, if_pos hk, fun w hto hno => ⟨Try.call75, fun R w' hb o ho => ?_, fun o ho => ?_, fun o ho x hx => ?_⟩, fun w hno => ⟨.inl hk, hno.bias, nb, hcb, fun _ => hbl, fun h => by omega⟩, fun o ho x hx => ?_⟩
      · rw [hG]
        exact dense_any w' n (hno.data.later hb) ⟨b1, b2⟩ (.slice none 0 0) .nilFunc cnt o size (by omega) hdl' (by omega)
      · rw [hG]; simp [denseT]; omega
      · rw [hG] at hx
        obtain ⟨i, _, rfl⟩ := List.mem_map.1 hx
        exact getD_bd nd _
      · rw [hG] at hx
        obtain ⟨i, hi, rfl⟩ := List.mem_map.1 hx
        rw [List.mem_range] at hi
        simp only
        omega
    · rw [if_neg hdl] at hsh; cases hsh
  · obtain ⟨g1, g2⟩ := h4 hk
    have hker := hfo.kern hk
    obtain ⟨hl4, hdim⟩ := kernel_dims hker
    have hsx := list4 hl4
    unfold shapeO at hsh
    rw [if_neg (by omega), if_neg (by omega), if_pos hk, ht] at hsh
    have hG : ∀ o, termsG n t.xs o = convT n.data.xs (n.shape.xs.getD 1 0) (n.shape.xs.getD 2 0) (n.shape.xs.getD 3 0) (t.xs.getD 1 0) (t.xs.getD 2 0) o := fun o => by unfold termsG; rw [if_neg (by omega), if_pos hk]
    have dm : ∀ k, k < 4 → 1 ≤ n.shape.xs.getD k 0 ∧ n.shape.xs.getD k 0 ≤ 64 := fun k hk => hdim _ (getD_mem (by omega))
    have dm0 := dm 0 (by decide)
    have dm1 := dm 1 (by decide)
    have dm2 := dm 2 (by decide)
    have dm3 := dm 3 (by decide)
    rw [hsx] at g1 hker
    have hke := kernel4I hker
    rw [hke] at g1
    generalize n.shape.xs.getD 0 0 = k0 at *
    generalize n.shape.xs.getD 1 0 = k1 at *
    generalize n.shape.xs.getD 2 0 = k2 at *
    generalize n.shape.xs.getD 3 0 = k3 at *
    by_cases hbad : t.xs.length ≠ 3 ∨ t.xs.getD 0 0 ≠ k1 ∨ t.xs.getD 1 0 < k2 ∨ t.xs.getD 2 0 < k3
    · rw [if_pos hbad] at hsh; cases hsh
    rw [if_neg hbad] at hsh
    have hl3 : t.xs.length = 3 := by omega
    have htx := len3 hl3
    have tdm := (entries_dims hg).2.2
    have td1 := tdm _ (getD_mem (xs := t.xs) (k := 1) (by omega))
    have td2 := tdm _ (getD_mem (xs := t.xs) (k := 2) (by omega))
    have te : entries t.xs = k1 * t.xs.getD 1 0 * t.xs.getD 2 0 := by
      have h0 : t.xs.getD 0 0 = k1 := by omega
      have := entries3_valI (a := t.xs.getD 0 0) (b := t.xs.getD 1 0) (c := t.xs.getD 2 0) (by rw [← htx]; exact hg)
      rw [← htx, h0] at this
      exact this
    generalize hi0 : t.xs.getD 0 0 = i0 at *
    generalize t.xs.getD 1 0 = i1 at *
    generalize t.xs.getD 2 0 = i2 at *
    by_cases hpos : 0 < entries [k0, i1 - k2 + 1, i2 - k3 + 1]
    · rw [if_pos hpos, Option.some.injEq] at hsh
      have hcv := entries3_valI hpos
      rw [hsh, hc] at hcv
      have hQ : k1 * k2 * k3 ≤ k1 * i1 * i2 := by
        have q1 : k1 * k2 ≤ k1 * i1 := Int.mul_le_mul_of_nonneg_left (by omega) (by omega)
        have q0 : 0 < k1 * k2 := Int.mul_pos (by omega) (by omega)
        exact Int.mul_le_mul q1 (by omega) (by omega) (by omega)
      have hQ0 : 0 < k1 * k2 * k3 := Int.mul_pos (Int.mul_pos (by omega) (by omega)) (by omega)
      have hob : ∀ o : Nat, o < cnt → (o : Int) < k0 * (i1 - k2 + 1) * (i2 - k3 + 1) := fun o ho => by rw [← hcv]; omega
      refine ⟨_, _, by unfold termsF; rw [if_neg (by omega), if_pos hk], fun w hto hno => ⟨Try.call76, fun R w' hb o ho => ?_, fun o ho => ?_, fun o ho x hx => ?_⟩, fun w hno => ⟨.inr (.inl hk), hno.bias, nb, hcb, fun h => by omega, fun _ => ?_⟩, fun o ho x hx => ?_⟩
      · rw [hG]
        exact conv_any w' n t (hno.data.later hb) (hno.shape.later hb) (hto.later hb) .nilFunc cnt k0 k1 k2 k3 i1 i2 o ⟨hsx, ⟨i0, htx⟩, dm1, by omega, by omega, by omega, by omega, g1, by omega, by omega, div2_lt (hob o ho) (by omega) (by omega)⟩
      · rw [hG]; simp only [convT, List.length_map, List.length_range]; omega
      · rw [hG] at hx
        obtain ⟨i, _, rfl⟩ := List.mem_map.1 hx
        exact getD_bd nd _
      · have hw1 : 0 < (i1 - k2 + 1) * (i2 - k3 + 1) := Int.mul_pos (by omega) (by omega)
        obtain ⟨A, hA⟩ : ∃ A : Nat, (i1 - k2 + 1) * (i2 - k3 + 1) = A := ⟨((i1 - k2 + 1) * (i2 - k3 + 1)).toNat, by omega⟩
        obtain ⟨B, hB⟩ : ∃ B : Nat, k0 = B := ⟨k0.toNat, by omega⟩
        have hcA : cnt = B * A := by
          have : (cnt : Int) = B * A := by rw [hcv, Int.mul_assoc, hA, hB]
          exact_mod_cast this
        have hbB : n.bias.xs.length = B := by omega
        have hA1 : 1 ≤ A := by omega
        have hB1 : 1 ≤ B := by omega
        rw [hbB, hcA]
        refine ⟨hB1, Nat.le_mul_of_pos_right B hA1, fun o ho => ?_⟩
        rw [Nat.mul_div_cancel_left A hB1]
        exact (Nat.div_lt_iff_lt_mul hA1).2 ho
      · rw [hG] at hx
        obtain ⟨i, hi, rfl⟩ := List.mem_map.1 hx
        rw [List.mem_range] at hi
        rw [te]
        exact conv_at (by omega) (by omega) (by omega) (by omega) (by omega)
    · rw [if_neg hpos] at hsh; cases hsh
  · have hz := hfo.pool hk
    unfold shapeO at hsh
    rw [if_neg (by omega), if_neg (by omega), if_neg (by omega), if_pos hk, ht] at hsh
    have hG : ∀ o, termsG n t.xs o = poolT n.size (t.xs.getD 1 0) (t.xs.getD 2 0) o := fun o => by unfold termsG; rw [if_neg (by omega), if_neg (by omega)]
    by_cases hbad : t.xs.length ≠ 3 ∨ t.xs.getD 1 0 % n.size ≠ 0 ∨ t.xs.getD 2 0 % n.size ≠ 0
    · rw [if_pos hbad] at hsh; cases hsh
    rw [if_neg hbad, Option.some.injEq] at hsh
    have hl3 : t.xs.length = 3 := by omega
    have htx := len3 hl3
    have tdm := (entries_dims hg).2.2
    have td0 := tdm _ (getD_mem (xs := t.xs) (k := 0) (by omega))
    have td1 := tdm _ (getD_mem (xs := t.xs) (k := 1) (by omega))
    have td2 := tdm _ (getD_mem (xs := t.xs) (k := 2) (by omega))
    have te : entries t.xs = t.xs.getD 0 0 * t.xs.getD 1 0 * t.xs.getD 2 0 := by
      have := entries3_valI (a := t.xs.getD 0 0) (b := t.xs.getD 1 0) (c := t.xs.getD 2 0) (by rw [← htx]; exact hg)
      rw [← htx] at this
      exact this
    generalize t.xs.getD 0 0 = i0 at *
    generalize t.xs.getD 1 0 = i1 at *
    generalize t.xs.getD 2 0 = i2 at *
    have m1 : i1 % n.size = 0 := by omega
    have m2 : i2 % n.size = 0 := by omega
    have z1 : n.size ≤ i1 := by
      rcases (by omega : i1 < n.size ∨ n.size ≤ i1) with hlt | hge
      · rw [Int.emod_eq_of_lt (by omega) hlt] at m1; omega
      · exact hge
    have z2 : n.size ≤ i2 := by
      rcases (by omega : i2 < n.size ∨ n.size ≤ i2) with hlt | hge
      · rw [Int.emod_eq_of_lt (by omega) hlt] at m2; omega
      · exact hge
    have hpos : 0 < entries [i0, i1 / n.size, i2 / n.size] := by
      have := shape_good hfo hgs hn.shape rfl
      rw [hsh]; exact this
    have hcv := entries3_valI hpos
    rw [hsh, hc] at hcv
    have hQ : n.size * n.size ≤ i1 * i2 := Int.mul_le_mul z1 z2 (by omega) (by omega)
    have hQ2 : i1 * i2 ≤ i0 * i1 * i2 := by
      have : 1 * (i1 * i2) ≤ i0 * (i1 * i2) := Int.mul_le_mul_of_nonneg_right (by omega) (Int.mul_nonneg (by omega) (by omega))
      rw [Int.mul_assoc]; omega
    have hob : ∀ o : Nat, o < cnt → (o : Int) < i0 * (i1 / n.size) * (i2 / n.size) := fun o ho => by rw [← hcv]; omega
    refine ⟨_, _, by unfold termsF; rw [if_neg (by omega), if_neg (by omega)], fun w hto hno => ⟨Try.call77, fun R w' hb o ho => ?_, fun o ho => ?_, fun o ho x hx => ?_⟩, fun w hno => ⟨.inr (.inr hk), hno.bias, nb, hcb, fun h => by omega, fun h => by omega⟩, fun o ho x hx => ?_⟩
    · rw [hG]
      exact pool_any w' n t (hto.later hb) .nilFunc cnt i1 i2 o ⟨⟨i0, htx⟩, by omega, z2, by omega, by omega, by omega⟩
    · rw [hG]; simp only [poolT, List.length_map, List.length_range]; omega
    · rw [hG] at hx
      obtain ⟨i, _, rfl⟩ := List.mem_map.1 hx
      exact ⟨(show (-1048576 : Int) ≤ 1 by decide), (show (1 : Int) ≤ 1048576 by decide)⟩
    · rw [hG] at hx
      obtain ⟨i, hi, rfl⟩ := List.mem_map.1 hx
      rw [List.mem_range] at hi
      rw [te]
      have hzz := Int.mul_pos (show 0 < n.size by omega) (show 0 < n.size by omega)
      exact pool_at (by omega) z1 z2 m1 m2 ⟨by omega, hob o ho⟩ (by omega)
end Go.Proofs.Ytdmkdogakbipbaa

/- IW -/
namespace Go.Proofs.Ytdmkdogakbipbaa
open Go.SX Go.RowKit
def isLin (n : NodeV) : Prop := n.kind = 3 ∨ n.kind = 4 ∨ n.kind = 5
instance (n : NodeV) : Decidable (isLin n) := inferInstanceAs (Decidable (_ ∨ _))
def endsA (n : NodeV) (cnt : Nat) (t : List Int) (a b : Sp) : List Int := if isLin n then linEnds n cnt (termsG n t) a else endsL n a b
def numsA (n : NodeV) (cnt : Nat) (t a b : List Int) : List Int := if isLin n then numsLin n cnt cnt (termsG n t) a else numsL n cnt a b
theorem shapes_pos {g : GraphV} (h : (check g).1 = 0) : ∀ q ∈ (check g).2, 0 < entries q := by
  obtain ⟨_, _, _, hcl, hin⟩ := check_in h
  have key : ∀ i, i ≤ g.l.length → ∀ q ∈ (check g).2.take i, 0 < entries q := by
    intro i
    induction i with
    | zero => intro _ q hq; simp at hq
    | succ i ih =>
      intro hi q hq
      obtain ⟨s, hs, hni⟩ := hin i g.l[i] (List.getElem?_eq_getElem (by omega))
      obtain ⟨hls, hse⟩ := List.getElem?_eq_some_iff.1 hs
      rw [List.take_succ_eq_append_getElem hls, hse] at hq
      rcases List.mem_append.1 hq with hq | hq
      · exact ih (by omega) q hq
      · simp at hq; subst hq
        exact shape_good (formed_of hni.form) (ih (by omega)) hni.shape rfl
  intro q hq
  have := key g.l.length (Nat.le_refl _) q
  rw [List.take_of_length_le (by omega)] at this
  exact this hq
/-- a node at its place: its shape s, the shape t of its first node -/
structure PlaceIn (n : NodeV) (sh : List (List Int)) (s t : List Int) (cnt : Nat) : Prop where
  node : NodeIn n sh s
  cnt : entries s = cnt
  pos : ∀ q ∈ sh, 0 < entries q
  first : isLin n → sh.getD n.a.toNat [] = t ∧ 0 < entries t
theorem PlaceIn.few {n : NodeV} {sh : List (List Int)} {s t : List Int} {cnt : Nat} (h : PlaceIn n sh s t cnt) : 1 ≤ cnt ∧ cnt ≤ 64 := by
  have h1 := shape_good (formed_of h.node.form) h.pos h.node.shape rfl
  have h2 := (entries_bd s).2
  have h3 := h.cnt
  omega
theorem PlaceIn.lin {n : NodeV} {sh : List (List Int)} {s : List Int} {t : IntsV} {cnt : Nat} (h : PlaceIn n sh s t.xs cnt) (hl : isLin n) : ∃ F P0, LinIn n t cnt F P0 :=
  lin_in h.node hl (h.first hl).1 (h.first hl).2 h.pos h.cnt
theorem endsA_len {n : NodeV} {sh : List (List Int)} {s t : List Int} {cnt : Nat} (h : PlaceIn n sh s t cnt) (a b : Sp) : 1 ≤ (endsA n cnt t a b).length := by
  unfold endsA
  split
  · have := h.few
    unfold linEnds
    rw [linPre_len]; omega
  · exact endsL_len h.node.form
structure NumIn (n : NodeV) (sh : List (List Int)) (a b : List Int) : Prop where
  aLen : n.kind ≠ 1 → n.kind ≠ 2 → (a.length : Int) = entries (sh.getD n.a.toNat [])
  bLen : n.kind = 6 → (b.length : Int) = entries (sh.getD n.b.toNat [])
theorem shape_rel2 {n : NodeV} {sh : List (List Int)} {s : List Int} (h : shapeO n sh = some s) (hnk : ¬ isLin n) (hk : 1 ≤ n.kind ∧ n.kind ≤ 9) (hk1 : n.kind ≠ 1) : (n.kind = 2 → s = n.shape.xs) ∧ (n.kind ≠ 2 → entries (sh.getD n.a.toNat []) = entries s) ∧ (n.kind = 6 → entries (sh.getD n.b.toNat []) = entries s) := by
  unfold isLin at hnk
  unfold shapeO at h
  by_cases h2 : n.kind = 2
  · rw [if_pos (by omega)] at h
    exact ⟨fun _ => by simpa using h.symm, fun h => absurd h2 h, fun h => by omega⟩
  · rw [if_neg (by omega), if_neg (by omega), if_neg (by omega), if_neg (by omega)] at h
    refine ⟨fun h => absurd h h2, fun _ => ?_, fun h6 => ?_⟩
    · split at h
      · split at h
        · simp only [Option.some.injEq] at h; rw [h]
        · cases h
      · split at h
        · split at h
          · rename_i he; simp only [Option.some.injEq] at h; rw [← h]; exact he.symm
          · cases h
        · simp only [Option.some.injEq] at h; rw [h]
    · rw [if_pos h6] at h
      split at h
      · rename_i he; simp only [Option.some.injEq] at h; rw [← he, h]
      · cases h
/-- the lengths of a plain node's numbers -/
theorem plain_lens {n : NodeV} {sh : List (List Int)} {s t : List Int} {cnt : Nat} (h : PlaceIn n sh s t cnt) (hl : ¬ isLin n) (hk1 : n.kind ≠ 1) {a b : List Int} (hn : NumIn n sh a b) : (n.kind = 2 ∨ n.kind = 6 ∨ n.kind = 7 ∨ n.kind = 8 ∨ n.kind = 9) ∧ (n.kind = 2 → n.data.xs.length = cnt) ∧ (n.kind ≠ 2 → a.length = cnt) ∧ (n.kind = 6 → b.length = cnt) := by
  obtain ⟨_, _, h7, h8, h2⟩ := ahead_of h.node.form
  have hkind := (formed_of h.node.form).kind
  obtain ⟨r2, rA, rB⟩ := shape_rel2 h.node.shape hl hkind hk1
  have hc := h.cnt
  unfold isLin at hl
  refine ⟨by omega, fun hk => ?_, fun hk => ?_, fun hk => ?_⟩
  · have := h2 hk
    rw [← r2 hk, hc] at this
    omega
  · have := hn.aLen hk1 hk
    rw [rA hk, hc] at this
    omega
  · have := hn.bLen hk
    rw [rB hk, hc] at this
    omega
theorem lin_within {A : Sp} {av : List Int} (hA : within A av) : ∀ {l : List Sp} {s1 s s2 : Int}, s1 ≤ s → s ≤ s2 → (∀ t ∈ l, 0 ≤ t.2 ∧ t.2 < av.length) → l.foldl (fLo A) s1 ≤ l.foldl (fNum av) s ∧ l.foldl (fNum av) s ≤ l.foldl (fHi A) s2
  | [], s1, s, s2, h1, h2, _ => ⟨h1, h2⟩
  | t :: r, s1, s, s2, h1, h2, h => by
    have ht := h t List.mem_cons_self
    have hw := within_getD hA (o := t.2.toNat) (by omega)
    have hs := scale_within (d := t.1) hw.1 hw.2
    have m1 : foldI min [t.1 * A.1, t.1 * A.2] = min (t.1 * A.1) (t.1 * A.2) := rfl
    have m2 : foldI max [t.1 * A.1, t.1 * A.2] = max (t.1 * A.1) (t.1 * A.2) := rfl
    rw [m1, m2, Int.mul_comm (av.getD t.2.toNat 0) t.1] at hs
    have e1 : fLo A s1 t = s1 + min (t.1 * A.1) (t.1 * A.2) := rfl
    have e2 : fHi A s2 t = s2 + max (t.1 * A.1) (t.1 * A.2) := rfl
    have e3 : fNum av s t = s + t.1 * av.getD t.2.toNat 0 := rfl
    simp only [List.foldl_cons]
    exact lin_within hA (by omega) (by omega) fun x hx => h x (List.mem_cons_of_mem _ hx)
def spanE (l : List Int) : Sp := (foldI min l, foldI max l)
theorem nums_in {n : NodeV} {sh : List (List Int)} {s : List Int} {t : IntsV} {cnt : Nat} (h : PlaceIn n sh s t.xs cnt) (hk1 : n.kind ≠ 1) {a b : List Int} {A B : Sp} (hn : NumIn n sh a b) (hA : within A a) (hB : within B b) : within (spanE (endsA n cnt t.xs A B)) (numsA n cnt t.xs a b) ∧ (numsA n cnt t.xs a b).length = cnt := by
  by_cases hl : isLin n
  · obtain ⟨F, P0, hL⟩ := h.lin hl
    have e1 : endsA n cnt t.xs A B = linEnds n cnt (termsG n t.xs) A := if_pos hl
    have e3 : numsA n cnt t.xs a b = numsLin n cnt cnt (termsG n t.xs) a := if_pos hl
    rw [e1, e3]
    have hk2 : n.kind ≠ 2 := by unfold isLin at hl; omega
    have hal := hn.aLen hk1 hk2
    rw [(h.first hl).1] at hal
    refine ⟨fun x hx => ?_, by simp [numsLin]⟩
    obtain ⟨o, ho, rfl⟩ := List.mem_map.1 hx
    have ho' := List.mem_range.1 ho
    have hw := lin_within hA (l := termsG n t.xs o) (Int.le_refl (biasI n cnt o)) (Int.le_refl _) fun s hs => by
      have := hL.at_ o ho' s hs
      omega
    have m1 : (termsG n t.xs o).foldl (fLo A) (biasI n cnt o) ∈ linEnds n cnt (termsG n t.xs) A := List.mem_flatMap.2 ⟨o, ho, by simp⟩
    have m2 : (termsG n t.xs o).foldl (fHi A) (biasI n cnt o) ∈ linEnds n cnt (termsG n t.xs) A := List.mem_flatMap.2 ⟨o, ho, by simp⟩
    exact ⟨Int.le_trans (foldI_min_le m1) hw.1, Int.le_trans hw.2 (foldI_max_ge m2)⟩
  · have e1 : endsA n cnt t.xs A B = endsL n A B := if_neg hl
    have e3 : numsA n cnt t.xs a b = numsL n cnt a b := if_neg hl
    rw [e1, e3]
    obtain ⟨q1, q2, q3, q4⟩ := plain_lens h hl hk1 hn
    refine ⟨fun x hx => ?_, by simp [numsL]⟩
    obtain ⟨o, ho, rfl⟩ := List.mem_map.1 hx
    exact num_within q1 q2 q3 q4 hA hB (List.mem_range.1 ho)
end Go.Proofs.Ytdmkdogakbipbaa

/- JE -/
namespace Go.Proofs.Ytdmkdogakbipbaa
open Go.SX Go.RowKit
def sumG (g : Nat → Int → Int) : Nat → List Int → Int
  | _, [] => 0
  | i, w :: r => g i w + sumG g (i + 1) r
def sumT (g : Nat → Int → Int) : List Sp → Int
  | [] => 0
  | t :: r => g t.2.toNat t.1 + sumT g r
def setT (r : List Int) (t : Sp) : List Int := r.set t.2.toNat t.1
theorem sumG_append (g : Nat → Int → Int) : ∀ (a b : List Int) (i : Nat), sumG g i (a ++ b) = sumG g i a + sumG g (i + a.length) b
  | [], b, i => by simp [sumG]
  | x :: r, b, i => by
    rw [List.cons_append, sumG, sumG, sumG_append g r b (i + 1), List.length_cons, show i + 1 + r.length = i + (r.length + 1) by omega]
    omega
theorem sumG_snoc (g : Nat → Int → Int) {l : List Int} {j : Nat} (h : j < l.length) : sumG g 0 (l.take (j + 1)) = sumG g 0 (l.take j) + g j (l.getD j 0) := by
  rw [List.take_succ_eq_append_getElem h, sumG_append, List.length_take, Nat.min_eq_left (Nat.le_of_lt h)]
  have : l.getD j 0 = l[j] := by rw [List.getD_eq_getElem?_getD, List.getElem?_eq_getElem h]; rfl
  rw [this]
  simp [sumG]
theorem sumG_set (g : Nat → Int → Int) {v : Int} : ∀ {r : List Int} {i j : Nat}, j < r.length → r.getD j 0 = 0 → g (i + j) 0 = 0 → sumG g i (r.set j v) = sumG g i r + g (i + j) v
  | [], i, j, h, _, _ => by simp at h
  | x :: r, i, 0, _, h0, hg => by
    have hx : x = 0 := by simpa using h0
    subst hx
    rw [List.set_cons_zero, sumG, sumG]
    simp only [Nat.add_zero] at hg ⊢
    omega
  | x :: r, i, j + 1, h, h0, hg => by
    rw [List.set_cons_succ, sumG, sumG, sumG_set g (i := i + 1) (by simpa using h) (by simpa using h0) (by rw [show i + 1 + j = i + (j + 1) by omega]; exact hg), show i + 1 + j = i + (j + 1) by omega]
    omega
theorem sumG_zero (g : Nat → Int → Int) (hg : ∀ k, g k 0 = 0) : ∀ (n i : Nat), sumG g i (List.replicate n 0) = 0
  | 0, i => rfl
  | n + 1, i => by rw [List.replicate_succ, sumG, hg, sumG_zero g hg n (i + 1)]; rfl
theorem setT_length (r : List Int) (t : Sp) : (setT r t).length = r.length := by simp [setT]
theorem setsT_length : ∀ (T : List Sp) (r : List Int), (T.foldl setT r).length = r.length
  | [], r => rfl
  | t :: T, r => by rw [List.foldl_cons, setsT_length T, setT_length]
theorem sumG_terms (g : Nat → Int → Int) (hg : ∀ k, g k 0 = 0) : ∀ {T : List Sp} {r : List Int}, (∀ t ∈ T, (0 ≤ t.2 ∧ t.2 < r.length) ∧ r.getD t.2.toNat 0 = 0) → T.Pairwise (fun x y => x.2 ≠ y.2) → sumG g 0 (T.foldl setT r) = sumG g 0 r + sumT g T
  | [], r, _, _ => by simp [sumT]
  | t :: T, r, h, hp => by
    obtain ⟨hp1, hp2⟩ := List.pairwise_cons.1 hp
    obtain ⟨⟨h1, h2⟩, h3⟩ := h t List.mem_cons_self
    rw [List.foldl_cons, sumG_terms g hg (T := T) (r := setT r t) (fun u hu => ?_) hp2]
    · have e : sumG g 0 (setT r t) = sumG g 0 r + g t.2.toNat t.1 := by
        have := sumG_set g (v := t.1) (r := r) (i := 0) (j := t.2.toNat) (by omega) h3 (hg _)
        rw [Nat.zero_add] at this
        exact this
      rw [e, sumT]; omega
    · obtain ⟨g1, g2⟩ := h u (List.mem_cons_of_mem _ hu)
      refine ⟨by rw [setT_length]; exact g1, ?_⟩
      have hne := hp1 u hu
      unfold setT
      rw [List.getD_eq_getElem?_getD, List.getElem?_set_ne (by omega), ← List.getD_eq_getElem?_getD]
      exact g2
def gLo (a : Sp) (_ : Nat) (w : Int) : Int := min (w * a.1) (w * a.2)
def gHi (a : Sp) (_ : Nat) (w : Int) : Int := max (w * a.1) (w * a.2)
def gNum (av : List Int) (i : Nat) (w : Int) : Int := w * av.getD i 0
theorem gLo_zero (a : Sp) (k : Nat) : gLo a k 0 = 0 := by unfold gLo; omega
theorem gHi_zero (a : Sp) (k : Nat) : gHi a k 0 = 0 := by unfold gHi; omega
theorem gNum_zero (av : List Int) (k : Nat) : gNum av k 0 = 0 := by unfold gNum; omega
theorem foldl_lo (a : Sp) : ∀ (T : List Sp) (s : Int), T.foldl (fLo a) s = s + sumT (gLo a) T
  | [], s => by simp [sumT]
  | t :: T, s => by
    rw [List.foldl_cons, foldl_lo a T, sumT]
    have e1 : fLo a s t = s + min (t.1 * a.1) (t.1 * a.2) := rfl
    have e2 : gLo a t.2.toNat t.1 = min (t.1 * a.1) (t.1 * a.2) := rfl
    omega
theorem foldl_hi (a : Sp) : ∀ (T : List Sp) (s : Int), T.foldl (fHi a) s = s + sumT (gHi a) T
  | [], s => by simp [sumT]
  | t :: T, s => by
    rw [List.foldl_cons, foldl_hi a T, sumT]
    have e1 : fHi a s t = s + max (t.1 * a.1) (t.1 * a.2) := rfl
    have e2 : gHi a t.2.toNat t.1 = max (t.1 * a.1) (t.1 * a.2) := rfl
    omega
theorem foldl_num (av : List Int) : ∀ (T : List Sp) (s : Int), T.foldl (fNum av) s = s + sumT (gNum av) T
  | [], s => by simp [sumT]
  | t :: T, s => by
    rw [List.foldl_cons, foldl_num av T, sumT]
    have e1 : fNum av s t = s + t.1 * av.getD t.2.toNat 0 := rfl
    have e2 : gNum av t.2.toNat t.1 = t.1 * av.getD t.2.toNat 0 := rfl
    omega
theorem mul_add_inj {A B x y m : Int} (hx : 0 ≤ x ∧ x < m) (hy : 0 ≤ y ∧ y < m) (h : A * m + x = B * m + y) : A = B ∧ x = y := by
  have hm : 0 < m := by omega
  have e1 : (A * m + x) / m = A := by rw [Int.add_comm, Int.add_mul_ediv_right _ _ (by omega), Int.ediv_eq_zero_of_lt hx.1 hx.2]; omega
  have e2 : (B * m + y) / m = B := by rw [Int.add_comm, Int.add_mul_ediv_right _ _ (by omega), Int.ediv_eq_zero_of_lt hy.1 hy.2]; omega
  have : A = B := by rw [← e1, ← e2, h]
  subst this
  exact ⟨rfl, by omega⟩
theorem div_mod_inj {i j m : Int} (_hm : 0 < m) (h1 : i / m = j / m) (h2 : i % m = j % m) : i = j := by
  have q1 := Int.mul_ediv_add_emod i m
  have q2 := Int.mul_ediv_add_emod j m
  rw [h1, h2] at q1
  omega
theorem conv_inj {d : List Int} {k1 k2 k3 i1 i2 o : Int} {i j : Nat} (h2 : 1 ≤ k2 ∧ k2 ≤ i1) (h3 : 1 ≤ k3 ∧ k3 ≤ i2) (ho : 0 ≤ o) (h : (convTerm d k1 k2 k3 i1 i2 o i).2 = (convTerm d k1 k2 k3 i1 i2 o j).2) : i = j := by
  have hW : 0 < i2 - k3 + 1 := by omega
  have hH : 0 < i1 - k2 + 1 := by omega
  obtain ⟨d1, d2, d3, d4⟩ := div_bd ho hW
  obtain ⟨d5, d6, d7, d8⟩ := div_bd d1 hH
  have c3 := Int.emod_nonneg (i : Int) (show k3 ≠ 0 by omega)
  have c4 := Int.emod_lt_of_pos (i : Int) (show 0 < k3 by omega)
  have e3 := Int.emod_nonneg (j : Int) (show k3 ≠ 0 by omega)
  have e4 := Int.emod_lt_of_pos (j : Int) (show 0 < k3 by omega)
  have c7 := Int.emod_nonneg ((i : Int) / k3) (show k2 ≠ 0 by omega)
  have c8 := Int.emod_lt_of_pos ((i : Int) / k3) (show 0 < k2 by omega)
  have e7 := Int.emod_nonneg ((j : Int) / k3) (show k2 ≠ 0 by omega)
  have e8 := Int.emod_lt_of_pos ((j : Int) / k3) (show 0 < k2 by omega)
  have h' : ((i : Int) / k3 / k2 * i1 + o / (i2 - k3 + 1) % (i1 - k2 + 1) + (i : Int) / k3 % k2) * i2 + o % (i2 - k3 + 1) + (i : Int) % k3 = ((j : Int) / k3 / k2 * i1 + o / (i2 - k3 + 1) % (i1 - k2 + 1) + (j : Int) / k3 % k2) * i2 + o % (i2 - k3 + 1) + (j : Int) % k3 := h
  rw [Int.add_assoc, Int.add_assoc _ _ ((j : Int) % k3)] at h'
  obtain ⟨q1, q2⟩ := mul_add_inj ⟨by omega, by omega⟩ ⟨by omega, by omega⟩ h'
  rw [Int.add_assoc, Int.add_assoc _ _ ((j : Int) / k3 % k2)] at q1
  obtain ⟨q3, q4⟩ := mul_add_inj ⟨by omega, by omega⟩ ⟨by omega, by omega⟩ q1
  have q5 := div_mod_inj (by omega) q3 (show (i : Int) / k3 % k2 = (j : Int) / k3 % k2 by omega)
  have q6 := div_mod_inj (by omega) q5 (show (i : Int) % k3 = (j : Int) % k3 by omega)
  omega
theorem pool_inj {z i1 i2 o : Int} {i j : Nat} (hz : 1 ≤ z) (h1 : z ≤ i1) (h2 : z ≤ i2) (m1 : i1 % z = 0) (m2 : i2 % z = 0) (ho : 0 ≤ o) (hi : (i : Int) < z * z) (hj : (j : Int) < z * z) (h : (poolTerm z i1 i2 o i).2 = (poolTerm z i1 i2 o j).2) : i = j := by
  have hW := div_pos1 (x := i2) (y := z) (by omega) h2
  have hH := div_pos1 (x := i1) (y := z) (by omega) h1
  have q1 := Int.mul_ediv_add_emod i1 z
  have q2 := Int.mul_ediv_add_emod i2 z
  obtain ⟨d1, d2, d3, d4⟩ := div_bd (x := o) (y := i2 / z) ho (by omega)
  obtain ⟨d5, d6, d7, d8⟩ := div_bd (x := o / (i2 / z)) (y := i1 / z) d1 (by omega)
  obtain ⟨c1, c2, c3, c4⟩ := div_bd (x := (i : Int)) (y := z) (by omega) (by omega)
  obtain ⟨e1, e2, e3, e4⟩ := div_bd (x := (j : Int)) (y := z) (by omega) (by omega)
  have hdy : (i : Int) / z < z := Int.ediv_lt_of_lt_mul (by omega) hi
  have hdj : (j : Int) / z < z := Int.ediv_lt_of_lt_mul (by omega) hj
  have h' : (o / (i2 / z) / (i1 / z) * i1 + o / (i2 / z) % (i1 / z) * z + (i : Int) / z) * i2 + o % (i2 / z) * z + (i : Int) % z = (o / (i2 / z) / (i1 / z) * i1 + o / (i2 / z) % (i1 / z) * z + (j : Int) / z) * i2 + o % (i2 / z) * z + (j : Int) % z := h
  have y0 : 0 ≤ o / (i2 / z) % (i1 / z) * z := Int.mul_nonneg d7 (by omega)
  have x0 : 0 ≤ o % (i2 / z) * z := Int.mul_nonneg d3 (by omega)
  have y1 : o / (i2 / z) % (i1 / z) * z ≤ (i1 / z - 1) * z := Int.mul_le_mul_of_nonneg_right (by omega) (by omega)
  have x1 : o % (i2 / z) * z ≤ (i2 / z - 1) * z := Int.mul_le_mul_of_nonneg_right (by omega) (by omega)
  have y2 : (i1 / z - 1) * z = z * (i1 / z) - z := by rw [Int.sub_mul, Int.one_mul, Int.mul_comm]
  have x2 : (i2 / z - 1) * z = z * (i2 / z) - z := by rw [Int.sub_mul, Int.one_mul, Int.mul_comm]
  rw [Int.add_assoc, Int.add_assoc _ _ ((j : Int) % z)] at h'
  obtain ⟨g1, g2⟩ := mul_add_inj ⟨by omega, by omega⟩ ⟨by omega, by omega⟩ h'
  have q6 := div_mod_inj (by omega) (show (i : Int) / z = (j : Int) / z by omega) (show (i : Int) % z = (j : Int) % z by omega)
  omega
end Go.Proofs.Ytdmkdogakbipbaa

/- JF -/
namespace Go.Proofs.Ytdmkdogakbipbaa
open Go.SX Go.RowKit
def matRow (n : NodeV) (tl : List Int) (o : Nat) : List Int :=
  if n.kind = 3 then (n.data.xs.drop (o * (entries tl).toNat)).take (entries tl).toNat else (termsG n tl o).foldl setT (List.replicate (entries tl).toNat 0)
def matRows (n : NodeV) (tl : List Int) (cnt : Nat) : List (List Int) := (List.range cnt).map (matRow n tl)
def matBias (n : NodeV) (cnt : Nat) : List Int := (List.range cnt).map (biasI n cnt)
theorem pairwise_map_range {f : Nat → Sp} {m : Nat} (h : ∀ i j, i < m → j < m → (f i).2 = (f j).2 → i = j) : ((List.range m).map f).Pairwise (fun x y => x.2 ≠ y.2) := by
  rw [List.pairwise_map]
  refine List.Pairwise.imp_of_mem ?_ (List.pairwise_lt_range (n := m))
  intro i j hi hj hlt e
  have := h i j (List.mem_range.1 hi) (List.mem_range.1 hj) e
  omega
/-- a node's sizes, of the kind of a convolution -/
structure ConvIn (n : NodeV) (t : List Int) : Prop where
  k2 : 1 ≤ n.shape.xs.getD 2 0 ∧ n.shape.xs.getD 2 0 ≤ t.getD 1 0
  k3 : 1 ≤ n.shape.xs.getD 3 0 ∧ n.shape.xs.getD 3 0 ≤ t.getD 2 0
theorem conv_in {n : NodeV} {sh : List (List Int)} {s t : List Int} {cnt : Nat} (h : PlaceIn n sh s t cnt) (hk : n.kind = 4) : ConvIn n t := by
  have hsh := h.node.shape
  have hker := (formed_of h.node.form).kern hk
  obtain ⟨hl4, hdim⟩ := kernel_dims hker
  have dm2 := hdim _ (getD_mem (xs := n.shape.xs) (k := 2) (by omega))
  have dm3 := hdim _ (getD_mem (xs := n.shape.xs) (k := 3) (by omega))
  unfold shapeO at hsh
  rw [if_neg (by omega), if_neg (by omega), if_pos hk, (h.first (.inr (.inl hk))).1] at hsh
  split at hsh
  · cases hsh
  · exact ⟨by omega, by omega⟩
structure PoolIn (n : NodeV) (t : List Int) : Prop where
  z : 1 ≤ n.size
  z1 : n.size ≤ t.getD 1 0
  z2 : n.size ≤ t.getD 2 0
  m1 : t.getD 1 0 % n.size = 0
  m2 : t.getD 2 0 % n.size = 0
theorem pool_in {n : NodeV} {sh : List (List Int)} {s t : List Int} {cnt : Nat} (h : PlaceIn n sh s t cnt) (hk : n.kind = 5) : PoolIn n t := by
  have hsh := h.node.shape
  have hz := (formed_of h.node.form).pool hk
  obtain ⟨hf, hg⟩ := h.first (.inr (.inr hk))
  unfold shapeO at hsh
  rw [if_neg (by omega), if_neg (by omega), if_neg (by omega), if_pos hk, hf] at hsh
  split at hsh
  · cases hsh
  · rename_i hbad
    have tdm := (entries_dims hg).2.2
    have td1 := tdm _ (getD_mem (xs := t) (k := 1) (by omega))
    have td2 := tdm _ (getD_mem (xs := t) (k := 2) (by omega))
    have m1 : t.getD 1 0 % n.size = 0 := by omega
    have m2 : t.getD 2 0 % n.size = 0 := by omega
    refine ⟨by omega, ?_, ?_, m1, m2⟩
    · rcases (by omega : t.getD 1 0 < n.size ∨ n.size ≤ t.getD 1 0) with hlt | hge
      · rw [Int.emod_eq_of_lt (by omega) hlt] at m1; omega
      · exact hge
    · rcases (by omega : t.getD 2 0 < n.size ∨ n.size ≤ t.getD 2 0) with hlt | hge
      · rw [Int.emod_eq_of_lt (by omega) hlt] at m2; omega
      · exact hge
theorem terms_pw {n : NodeV} {sh : List (List Int)} {s t : List Int} {cnt : Nat} (h : PlaceIn n sh s t cnt) (hl : isLin n) (hk3 : n.kind ≠ 3) (o : Nat) : (termsG n t o).Pairwise (fun x y => x.2 ≠ y.2) := by
  rcases hl with hk | hk | hk
  · exact absurd hk hk3
  · have c := conv_in h hk
    have hG : termsG n t o = convT n.data.xs (n.shape.xs.getD 1 0) (n.shape.xs.getD 2 0) (n.shape.xs.getD 3 0) (t.getD 1 0) (t.getD 2 0) o := by unfold termsG; rw [if_neg (by omega), if_pos hk]
    rw [hG]
    exact pairwise_map_range fun i j _ _ e => conv_inj c.k2 c.k3 (by omega) e
  · have c := pool_in h hk
    have hG : termsG n t o = poolT n.size (t.getD 1 0) (t.getD 2 0) o := by unfold termsG; rw [if_neg (by omega), if_neg (by omega)]
    rw [hG]
    exact pairwise_map_range fun i j hi hj e => pool_inj c.z c.z1 c.z2 c.m1 c.m2 (by omega) (by omega) (by omega) e
theorem sumT_range (g : Nat → Int → Int) (f : Nat → Int) : ∀ (m i : Nat), sumT g ((List.range' i m).map fun k => (f k, (k : Int))) = sumG g i ((List.range' i m).map f)
  | 0, i => rfl
  | m + 1, i => by
    rw [List.range'_succ, List.map_cons, List.map_cons, sumT, sumG, sumT_range g f m (i + 1)]
    simp
theorem mat_sum {n : NodeV} {sh : List (List Int)} {s t : List Int} {cnt : Nat} (h : PlaceIn n sh s t cnt) (hl : isLin n) {o : Nat} (ho : o < cnt) (g : Nat → Int → Int) (hg : ∀ k, g k 0 = 0) : sumG g 0 (matRow n t o) = sumT g (termsG n t o) := by
  obtain ⟨F, P0, hL⟩ := PlaceIn.lin (t := ⟨none, 0, t⟩) h hl
  by_cases hk : n.kind = 3
  · have hG : termsG n t o = denseT n o (entries t).toNat := by unfold termsG; rw [if_pos hk]
    have hR : matRow n t o = (n.data.xs.drop (o * (entries t).toNat)).take (entries t).toNat := if_pos hk
    rw [hG, hR]
    unfold denseT
    have hsh := h.node.shape
    have hc := h.cnt
    obtain ⟨hf, hgp⟩ := h.first hl
    obtain ⟨b1, b2⟩ := (formed_of h.node.form).bias hk
    unfold shapeO at hsh
    rw [if_neg (by omega), if_pos hk, hf] at hsh
    split at hsh
    · rename_i hdl
      rw [Option.some.injEq] at hsh
      have he1 : entries [(n.bias.xs.length : Int)] = n.bias.xs.length := by
        unfold entries
        rw [if_neg (by simp)]
        simp only [entLoop]
        rw [if_neg (by omega)]
        omega
      rw [← hsh, he1] at hc
      obtain ⟨size, hsz⟩ : ∃ size : Nat, entries t = size := ⟨(entries t).toNat, by omega⟩
      have hdl' : n.data.xs.length = n.bias.xs.length * size := by
        rw [hsz, ← Int.natCast_mul] at hdl
        exact Int.ofNat.inj hdl
      rw [hsz, Int.toNat_natCast]
      have hle : o * size + size ≤ n.data.xs.length := by
        have : (o + 1) * size ≤ n.bias.xs.length * size := Nat.mul_le_mul_right _ (by omega)
        rw [Nat.add_mul, Nat.one_mul] at this
        omega
      have e := sumT_range g (fun i => n.data.xs.getD (o * size + i) 0) size 0
      rw [← List.range_eq_range'] at e
      rw [e]
      congr 1
      apply List.ext_getElem
      · simp; omega
      · intro i h1 h2
        rw [List.getElem_take, List.getElem_drop, List.getElem_map, List.getElem_range, List.getD_eq_getElem?_getD, List.getElem?_eq_getElem]
        rfl
    · cases hsh
  · have hR : matRow n t o = (termsG n t o).foldl setT (List.replicate (entries t).toNat 0) := if_neg hk
    rw [hR, sumG_terms g hg (fun u hu => ?_) (terms_pw h hl hk o), sumG_zero g hg]
    · omega
    · have : 0 ≤ u.2 ∧ u.2 < entries t := hL.at_ o ho u hu
      rw [List.length_replicate]
      refine ⟨by omega, ?_⟩
      rw [List.getD_eq_getElem?_getD, List.getElem?_replicate]
      split <;> rfl
end Go.Proofs.Ytdmkdogakbipbaa

/- JG -/
namespace Go.Proofs.Ytdmkdogakbipbaa
open Go.SX Go.RowKit
theorem newSlicesM {w w' : World} {v : Value} {l : List IntsV} {T : TypeId} (h : NewRows w w' v 1 T (shRows l)) : ∃ base cap, v = .slice base l.length cap ∧ l.length ≤ cap ∧ (rowsA base 1 (shRows l)).holds (fun b => w.heap.size ≤ b ∧ b < w'.heap.size) w' := by
  obtain ⟨base, cap, e, h1⟩ := newRows_data h
  obtain ⟨lc, e2, F, hF, hr, hcap, _⟩ := h
  rw [e2] at e
  simp only [Value.slice.injEq] at e
  obtain ⟨e3, _, e4⟩ := e
  refine ⟨base, cap, ?_, ?_, h1⟩
  · rw [e2, e3, e4, shRows_length]
  · rw [← e4]; simpa [shRows_length] using hcap
/-- what Matrix hands back -/
structure MatV where
  rows : ShapesV
  bias : IntsV
  own : Bool
def MatV.val (x : MatV) : Value := .tuple #[x.rows.val, x.bias.val]
def matD (x : MatV) : Asn where
  holds R w := (rowsA x.rows.base 1 (shRows x.rows.l)).holds R w ∧ (x.own = true → (∀ u ∈ x.rows.l, (intsA u).holds R w) ∧ (intsA x.bias).holds R w)
  stable := fun hR hw h => ⟨(rowsA _ _ _).stable hR hw h.1, fun e => ⟨fun u hu => (intsA u).stable hR hw ((h.2 e).1 u hu), (intsA _).stable hR hw (h.2 e).2⟩⟩
structure MatIs (n : NodeV) (tl : List Int) (cnt : Nat) (x : MatV) : Prop where
  rows : x.rows.l.map IntsV.xs = matRows n tl cnt
  bias : x.bias.xs = matBias n cnt
  sane : ∀ u ∈ x.rows.l, u.sane
  biasSane : x.bias.sane
  old : x.own = false → x.bias = n.bias ∧ ∀ w, n.data.ok w → ∀ u ∈ x.rows.l, u.ok w
def MatPost (w : World) (n : NodeV) (tl : List Int) (cnt : Nat) (e : Ending) (w' : World) : Prop :=
  ∃ x, MatIs n tl cnt x ∧ e = .returned x.val ∧ Ext w w' ∧ (matD x).holds (fun b => w.heap.size ≤ b ∧ b < w'.heap.size) w'
def cutU (u : IntsV) (a : Addr) (size o : Nat) : IntsV := ⟨some (a.add (o * size)), u.cap - o * size, (u.xs.drop (o * size)).take size⟩
theorem slice_cut {base : Option Addr} {a : Addr} {len cap lo hi : Nat} {z1 z2 : Int} {K : SV → Prop} (hb : base = some a) (h1 : z1 = lo) (h2 : z2 = hi) (h3 : lo < hi) (h4 : hi ≤ len) (h5 : len ≤ cap) (h : K (.c (.slice (some (a.add lo)) (hi - lo) (cap - lo)))) : sliceK base len cap 1 (some z1) (some z2) none K := by
  subst hb
  rw [sliceK_def]
  refine ⟨lo, hi, cap, h1, h2, rfl, by omega, by omega, by omega, fun h => (by cases h), ?_⟩
  rw [if_neg (by omega)]
  simpa using h
theorem rowsI_cut {w : World} {a : Addr} {xs : List (List Value)} (lo m : Nat) (h : RowsI w (some a) 1 xs) : RowsI w (some (a.add lo)) 1 ((xs.drop lo).take m) := by
  rcases h with h | ⟨a', ha, h⟩
  · subst h; exact .inl (by simp)
  · obtain rfl : a = a' := by simpa using ha
    refine .inr ⟨_, rfl, fun i r hr j v hj => ?_⟩
    rw [List.getElem?_take] at hr
    split at hr
    · rw [List.getElem?_drop] at hr
      have := h (lo + i) r hr j v hj
      rw [add_add, show lo + (i * 1 + j) = (lo + i) * 1 + j by omega]
      exact this
    · cases hr
theorem cutU_ok {w : World} {u : IntsV} {a : Addr} (size o : Nat) (hu : u.ok w) (ha : u.base = some a) (hl : o * size + size ≤ u.xs.length) : (cutU u a size o).ok w := by
  have hr := hu.rows
  rw [ha] at hr
  refine ⟨?_, fun x hx => hu.fits x (List.mem_of_mem_drop (List.mem_of_mem_take hx)), ?_, ?_⟩
  · show RowsI w (some (a.add (o * size))) 1 (ints ((u.xs.drop (o * size)).take size))
    have e : ints ((u.xs.drop (o * size)).take size) = ((ints u.xs).drop (o * size)).take size := by simp [ints, List.map_drop, List.map_take]
    rw [e]
    exact rowsI_cut _ _ hr
  · show ((u.xs.drop (o * size)).take size).length ≤ u.cap - o * size
    have := hu.room
    simp only [List.length_take, List.length_drop]
    omega
  · show ((u.xs.drop (o * size)).take size).length ≤ _
    have := hu.few
    simp only [List.length_take, List.length_drop]
    omega
theorem cutU_sane {w : World} {u : IntsV} {a : Addr} (size o : Nat) (hu : u.ok w) (ha : u.base = some a) (hl : o * size + size ≤ u.xs.length) : (cutU u a size o).sane := ⟨(cutU_ok size o hu ha hl).fits, (cutU_ok size o hu ha hl).room, (cutU_ok size o hu ha hl).few⟩
end Go.Proofs.Ytdmkdogakbipbaa

/- JH -/
namespace Go.Proofs.Ytdmkdogakbipbaa
abbrev dtJH0 : Go.SX.DT := (.take 0 (.take 1 (.take 2 (.take 3 (.take 4 (.take 5 (.take 6 (.take 7 (.take 8 (.take 9 (.take 10 (.take 11 (.take 12 (.take 13 (.take 14 (.take 15 (.take 16 (.take 17 (.take 18 (.take 19 (.take 20 (.take 21 (.take 22 (.take 23 (.take 24 (.one 25 (.done)))))))))))))))))))))))))))
abbrev dtJH1 : Go.SX.DT := (.take 0 (.take 1 (.take 2 (.take 4 (.one 3 (.take 5 (.done)))))))
abbrev dtJH2 : Go.SX.DT := (.take 0 (.take 1 (.take 2 (.take 3 (.take 4 (.take 5 (.take 6 (.take 7 (.take 8 (.take 9 (.take 10 (.take 11 (.take 12 (.take 13 (.take 14 (.take 15 (.take 16 (.take 17 (.take 18 (.take 19 (.take 20 (.take 21 (.take 22 (.take 23 (.take 24 (.take 25 (.take 26 (.take 27 (.take 28 (.take 29 (.take 30 (.take 31 (.take 32 (.take 33 (.take 34 (.take 35 (.take 36 (.take 37 (.take 38 (.take 39 (.take 40 (.take 41 (.one 42 (.done))))))))))))))))))))))))))))))))))))))))))))
open Go.SX Go.RowKit
theorem mat_end_old {B : Base} {H : Heap} {S : Asn} {nx i m : Nat} {w : World} {n : NodeV} {tl : List Int} {cnt : Nat} {us : List IntsV} (hb : ∀ R w', S.holds R w' → (baseA B.w0).holds R w') (hw0 : B.w0 = w) (he : (i, Ent.rows (shRows us) 1 33) ∈ H) (hm : m = us.length)
    (h1 : us.map IntsV.xs = matRows n tl cnt) (h2 : n.bias.xs = matBias n cnt) (h3 : ∀ u ∈ us, u.sane) (h4 : n.bias.sane) (h5 : ∀ w, n.data.ok w → ∀ u ∈ us, u.ok w) : finK B (.tup [.os i m, .c n.bias.val]) H S nx (MatPost w n tl cnt) := by
  subst hw0 hm
  refine fin_of fun ρ w' hw => ?_
  have hn := new_of_abs hw hb he
  rw [shRows_length] at hn
  obtain ⟨base, cap, e, hc, hD⟩ := newSlicesM hn
  refine ⟨⟨⟨base, cap, us⟩, n.bias, false⟩, ⟨h1, h2, h3, h4, fun _ => ⟨rfl, h5⟩⟩, ?_, ext_of_abs hw hb, hD, fun h => by cases h⟩
  show Ending.returned (.tuple #[(SV.os i us.length).rf ρ, n.bias.val]) = _
  rw [e]; rfl
set_option maxRecDepth 20000 in
set_option maxHeartbeats 2000000 in
theorem mat_dense (w : World) (n : NodeV) (t : IntsV) (ht : t.ok w) (hno : n.ok w) (hk : n.kind = 3) (size cnt : Nat) (hsz : entries t.xs = size) (h1 : 1 ≤ size ∧ size ≤ 64) (hb : n.bias.xs.length = cnt) (hc : 1 ≤ cnt ∧ cnt ≤ 64) (hdl : n.data.xs.length = cnt * size) : Calls Try.prog 66 #[n.valA, t.val] w (MatPost w n t.xs cnt) := by
  have hd := hno.data
  have hpos : size ≤ cnt * size := Nat.le_mul_of_pos_left _ hc.1
  obtain ⟨ua, hua⟩ := hd.base (by omega)
  refine calls_of tab tabOk Try.func66 rfl rfl rfl [] (fun _ => ⟨none, 0⟩) [.agg [.c (.int .i64 n.kind), .c (.int .i64 n.a), .c (.int .i64 n.b), .c n.shape.val, .c (.int .i64 n.lo), .c (.int .i64 n.hi), .c (.int .i64 n.size), .c n.data.val, .c n.bias.val], .c t.val] [] (baseA w) 0 rfl rfl (by show 2 ≤ _; decide) (abs_base w) ?_
  (repeat' ((conv => whnf) <;> first | (show callK _ 34 _ _ _ _ _; refine call_pure (f := 34) Try.call34 (.int .i64 (entries t.xs)) (fun ρ w' hw => refEntries_any w' t.base t.cap t.xs (holds_of_abs hw fun R h => rows_base h ht.rows)) ?_) | (show drawK _ 28 _ _ _ _ _ _; refine draw_tree tabOk mixed [25] _ dtJH0 (by kernel_rfl) (by kernel_rfl) (by kernel_rfl) (List.Sublist.refl _) ?_) | (show drawK _ 30 _ _ _ _ _ _; refine draw_tree tabOk mixed [] _ dtJH1 (by kernel_rfl) (by kernel_rfl) (by kernel_rfl) (List.Sublist.refl _) ?_) | (show drawK _ 52 _ _ _ _ _ _; refine draw_tree tabOk mixed [42] _ dtJH2 (by kernel_rfl) (by kernel_rfl) (by kernel_rfl) (List.Sublist.refl _) ?_) | (show drawK _ _ _ _ _ _ _ _; refine draw_quiet tabOk mixed (by kernel_rfl) ?_) | (show Wp _ _ _ _ _ _ _; refine Wp.go tabOk rfl ?_) | (show @cmpK _ _ _; (first | refine cmpY ?_ | refine cmpN ?_ | (refine cmp_both ?_ ?_ <;> intro _))) | (show wrapK _ _ _; refine wrapA ?_) | (show leK _ _ _; refine leA ?_) | (show roomK _ _ _; refine roomA ?_) | (show ltK _ _ _; refine ltA ?_) | (show _ ∧ _; refine ⟨?_, ?_⟩) | (show keepK _ _ _ _ _; refine keepA ?_) | refine own_keep ?_ | refine ap_old ?_))
  refine Wp.loop (σ := Nat × Nat × List IntsV) 2 (fun ⟨o, m, us⟩ => [(2, .lp 0 0 0 0), (6, .c (.int .i64 size)), (7, .os 1 m), (33, .c (.int .i64 cnt)), (34, .c (.int .i64 o))]) (fun ⟨_, _, us⟩ => [(1, .rows (shRows us) 1 33), (0, .box [.c (.int .i64 n.kind), .c (.int .i64 n.a), .c (.int .i64 n.b), .c n.shape.val, .c (.int .i64 n.lo), .c (.int .i64 n.hi), .c (.int .i64 n.size), .c n.data.val, .c n.bias.val] 38)]) (fun _ => baseA w)
    (fun ⟨o, m, us⟩ => o ≤ cnt ∧ m = us.length ∧ us = (List.range o).map (cutU n.data ua size)) (fun s => cnt - s.1) (0, 0, []) [(1, none)] (by decide) (fun s => ⟨rfl, rfl⟩) ⟨Nat.zero_le _, rfl, rfl⟩ ⟨rfl, ⟨rfl, ?_, rfl, ?_, rfl, trivial⟩, ⟨rfl, (by repeat (first | exact List.mem_cons_self | apply List.mem_cons_of_mem)), trivial⟩, fun _ _ h => h⟩ ?_
  · rw [hsz]; rfl
  · rw [hb]; rfl
  rintro ⟨o, m, us⟩ ⟨ho, hm, hus⟩
  have hml : us.length = o := by rw [hus]; simp
  by_cases hlt : o < cnt
  · have q1 : o * size + size ≤ cnt * size := by
      have : (o + 1) * size ≤ cnt * size := Nat.mul_le_mul_right _ (by omega)
      rw [Nat.add_mul, Nat.one_mul] at this
      exact this
    have q2 : cnt * size ≤ 64 * 64 := Nat.mul_le_mul hc.2 h1.2
    have e1 : (o : Int) * size = ((o * size : Nat) : Int) := by rw [Int.natCast_mul]
    have e2 : ((o : Int) + 1) * size = ((o * size + size : Nat) : Int) := by rw [Int.add_mul, Int.one_mul, Int.natCast_add, Int.natCast_mul]
    generalize hP : o * size = P at *
    have hroom := hd.room
    (repeat' ((conv => whnf) <;> first | (show sliceK _ _ _ _ _ _ _ _; refine slice_cut hua e1 e2 (by omega) (by omega) (by omega) ?_) | (show leK _ _ _; (refine le_of (by rw [shRows_length, hm]; exact Nat.le_refl _) ?_)) | (show roomK _ _ _; (refine room_of (by show (m + 1) * 24 ≤ 140737488355328; omega) ?_)) | (show drawK _ 28 _ _ _ _ _ _; refine draw_tree tabOk mixed [25] _ dtJH0 (by kernel_rfl) (by kernel_rfl) (by kernel_rfl) (List.Sublist.refl _) ?_) | (show drawK _ 30 _ _ _ _ _ _; refine draw_tree tabOk mixed [] _ dtJH1 (by kernel_rfl) (by kernel_rfl) (by kernel_rfl) (List.Sublist.refl _) ?_) | (show drawK _ 52 _ _ _ _ _ _; refine draw_tree tabOk mixed [42] _ dtJH2 (by kernel_rfl) (by kernel_rfl) (by kernel_rfl) (List.Sublist.refl _) ?_) | (show drawK _ _ _ _ _ _ _ _; refine draw_quiet tabOk mixed (by kernel_rfl) ?_) | (show Wp _ _ _ _ _ _ _; refine Wp.go tabOk rfl ?_) | (show @cmpK _ _ _; (first | refine cmpY ?_ | refine cmpN ?_ | (refine cmp_both ?_ ?_ <;> intro _))) | (show wrapK _ _ _; refine wrapA ?_) | (show leK _ _ _; refine leA ?_) | (show roomK _ _ _; refine roomA ?_) | (show ltK _ _ _; refine ltA ?_) | (show _ ∧ _; refine ⟨?_, ?_⟩) | (show keepK _ _ _ _ _; refine keepA ?_) | refine own_keep ?_ | refine ap_old ?_))
    all_goals (conv => whnf)
    have hval : Value.slice (some (ua.add P)) (P + size - P) (n.data.cap - P) = (cutU n.data ua size o).val := by
      unfold cutU IntsV.val
      simp only [List.length_take, List.length_drop, hP]
      congr 1
      omega
    exact ⟨(o + 1, m + 1, us ++ [cutU n.data ua size o]), [(1, some 3)], ⟨hlt, by rw [hm]; simp, by rw [hus, List.range_succ, List.map_append]; rfl⟩, by simp only; omega, rfl, ⟨rfl, rfl, rfl, rfl, rfl, trivial⟩, ⟨by
      have := rows_snoc us (cutU n.data ua size o) (i := 3) (T := 33) (H := [])
      rw [← hval, ← hm] at this
      exact List.mem_cons.2 (.inl (List.mem_singleton.1 this)), (by repeat (first | exact List.mem_cons_self | apply List.mem_cons_of_mem)), trivial⟩, fun _ _ h => h⟩
  · obtain rfl : o = cnt := by omega
    (repeat' ((conv => whnf) <;> first | (show drawK _ 28 _ _ _ _ _ _; refine draw_tree tabOk mixed [25] _ dtJH0 (by kernel_rfl) (by kernel_rfl) (by kernel_rfl) (List.Sublist.refl _) ?_) | (show drawK _ 30 _ _ _ _ _ _; refine draw_tree tabOk mixed [] _ dtJH1 (by kernel_rfl) (by kernel_rfl) (by kernel_rfl) (List.Sublist.refl _) ?_) | (show drawK _ 52 _ _ _ _ _ _; refine draw_tree tabOk mixed [42] _ dtJH2 (by kernel_rfl) (by kernel_rfl) (by kernel_rfl) (List.Sublist.refl _) ?_) | (show drawK _ _ _ _ _ _ _ _; refine draw_quiet tabOk mixed (by kernel_rfl) ?_) | (show Wp _ _ _ _ _ _ _; refine Wp.go tabOk rfl ?_) | (show @cmpK _ _ _; (first | refine cmpY ?_ | refine cmpN ?_ | (refine cmp_both ?_ ?_ <;> intro _))) | (show wrapK _ _ _; refine wrapA ?_) | (show leK _ _ _; refine leA ?_) | (show roomK _ _ _; refine roomA ?_) | (show ltK _ _ _; refine ltA ?_) | (show _ ∧ _; refine ⟨?_, ?_⟩) | (show keepK _ _ _ _ _; refine keepA ?_) | refine own_keep ?_ | refine ap_old ?_))
    all_goals (conv => whnf)
    have hcl : ∀ k, k < o → k * size + size ≤ n.data.xs.length := fun k hk => by
      have : (k + 1) * size ≤ o * size := Nat.mul_le_mul_right _ (by omega)
      rw [Nat.add_mul, Nat.one_mul] at this
      omega
    refine mat_end_old (fun _ _ h => h) rfl (by repeat (first | exact List.mem_cons_self | apply List.mem_cons_of_mem)) hm ?_ ?_ ?_ ⟨hno.bias.fits, hno.bias.room, hno.bias.few⟩ ?_
    · rw [hus, matRows, List.map_map]
      refine List.map_congr_left fun k _ => ?_
      unfold matRow
      rw [if_pos hk, hsz, Int.toNat_natCast]; rfl
    · unfold matBias
      apply List.ext_getElem
      · simp [hb]
      · intro k g1 g2
        rw [List.getElem_map, List.getElem_range]
        unfold biasI
        rw [if_pos hk, List.getD_eq_getElem?_getD, List.getElem?_eq_getElem g1]; rfl
    · intro u hu
      rw [hus] at hu
      obtain ⟨k, hk', rfl⟩ := List.mem_map.1 hu
      exact cutU_sane size k hd hua (hcl k (List.mem_range.1 hk'))
    · intro w' hd' u hu
      rw [hus] at hu
      obtain ⟨k, hk', rfl⟩ := List.mem_map.1 hu
      exact cutU_ok size k hd' hua (hcl k (List.mem_range.1 hk'))
end Go.Proofs.Ytdmkdogakbipbaa

/- JI -/
namespace Go.Proofs.Ytdmkdogakbipbaa
open Go.SX Go.RowKit
theorem mul_add_div {A x m : Int} (hx : 0 ≤ x ∧ x < m) : (A * m + x) / m = A ∧ (A * m + x) % m = x := by
  have hm : 0 < m := by omega
  constructor
  · rw [Int.add_comm, Int.add_mul_ediv_right _ _ (by omega), Int.ediv_eq_zero_of_lt hx.1 hx.2]; omega
  · rw [Int.add_comm, Int.add_mul_emod_self_right, Int.emod_eq_of_lt hx.1 hx.2]
theorem pos3 {c y x H W o : Int} (ho : o = (c * H + y) * W + x) (hx : 0 ≤ x ∧ x < W) (hy : 0 ≤ y ∧ y < H) : o / W / H = c ∧ o / W % H = y ∧ o % W = x := by
  subst ho
  rw [(mul_add_div hx).1, (mul_add_div hx).2, (mul_add_div hy).1, (mul_add_div hy).2]
  exact ⟨rfl, rfl, rfl⟩
def rowP (T : List Sp) (size m : Nat) : List Int := (T.take m).foldl setT (List.replicate size 0)
theorem rowP_length (T : List Sp) (size m : Nat) : (rowP T size m).length = size := by unfold rowP; rw [setsT_length, List.length_replicate]
theorem rowP_succ {T : List Sp} {size m : Nat} (h : m < T.length) : rowP T size (m + 1) = setT (rowP T size m) T[m] := by
  unfold rowP
  rw [List.take_succ_eq_append_getElem h, List.foldl_append]; rfl
theorem ints_store {r : List Int} {k : Nat} {v : Int} {K : List (List Value) → Prop} (hk : k < r.length) (h : K (ints (r.set k v))) : rowStoreK (ints r) k 0 [.int .i64 v] K := by
  refine rowStore_of _ (ints_get hk) (by show 0 + 1 ≤ 1; omega) ?_
  have e : (ints r).set k (setFrom [Value.int .i64 r[k]] 0 [.int .i64 v]) = ints (r.set k v) := by
    have e2 : setFrom [Value.int .i64 r[k]] 0 [.int .i64 v] = [Value.int .i64 v] := rfl
    rw [e2]
    simp [ints, List.map_set]
  rw [e]; exact h
theorem sets_bd : ∀ (T : List Sp) (r : List Int), (∀ x ∈ r, bd20 x) → (∀ t ∈ T, bd20 t.1) → ∀ x ∈ T.foldl setT r, bd20 x
  | [], r, h, _ => h
  | t :: T, r, h, ht => by
    rw [List.foldl_cons]
    refine sets_bd T _ (fun x hx => ?_) (fun u hu => ht u (List.mem_cons_of_mem _ hu))
    rcases List.mem_or_eq_of_mem_set hx with hx | hx
    · exact h x hx
    · rw [hx]; exact ht t List.mem_cons_self
theorem rowP_bd {T : List Sp} {size m : Nat} (hT : ∀ t ∈ T, bd20 t.1) : ∀ x ∈ rowP T size m, bd20 x :=
  sets_bd _ _ (fun x hx => by rw [(List.mem_replicate.1 hx).2]; exact ⟨by decide, by decide⟩) (fun t ht => hT t (List.mem_of_mem_take ht))
theorem ro_intv {a : Addr} {j : Nat} {S : Asn} {xs : List Int} {v : Int} {K : SV → Prop} (hx : ∀ R w, S.holds R w → RowsI w (some a) 1 (ints xs)) (hj : j < xs.length) (e : xs.getD j 0 = v) (h : K (.c (.int .i64 v))) : roK (a.add (j * 1)) S K := by
  subst e; exact ro_int hx hj h
theorem nn_bd {a b A B : Int} (ha : 0 ≤ a ∧ a ≤ A) (hb : 0 ≤ b ∧ b ≤ B) : 0 ≤ a * b ∧ a * b ≤ A * B := ⟨Int.mul_nonneg ha.1 hb.1, Int.mul_le_mul ha.2 hb.2 hb.1 (by omega)⟩
/-- rows so far -/
structure Sofar3 (n : NodeV) (tl : List Int) (us : List IntsV) (o : Nat) : Prop where
  rows : us.map IntsV.xs = (List.range o).map (matRow n tl)
  sane : ∀ u ∈ us, u.sane
theorem Sofar3.len {n : NodeV} {tl : List Int} {us : List IntsV} {o : Nat} (h : Sofar3 n tl us o) : us.length = o := by
  have := congrArg List.length h.rows
  simpa using this
theorem Sofar3.next {n : NodeV} {tl : List Int} {us : List IntsV} {o : Nat} {u : IntsV} (h : Sofar3 n tl us o) (hu : u.sane) (hx : u.xs = matRow n tl o) : Sofar3 n tl (us ++ [u]) (o + 1) := by
  refine ⟨by rw [List.map_append, h.rows, List.range_succ, List.map_append, List.map_cons, List.map_nil, List.map_cons, List.map_nil, hx], fun v hv => ?_⟩
  rcases List.mem_append.1 hv with hv | hv
  · exact h.sane v hv
  · rw [List.mem_singleton.1 hv]; exact hu
theorem mat_end_new {B : Base} {H : Heap} {S : Asn} {nx i j m m' : Nat} {w : World} {n : NodeV} {tl : List Int} {cnt : Nat} {us : List IntsV} {bs : List Int} (hb : ∀ R w', S.holds R w' → (baseA B.w0).holds R w') (hE : ∀ R w', S.holds R w' → (eachA B.w0.heap.size us).holds R w') (hw0 : B.w0 = w) (he : (i, Ent.rows (shRows us) 1 33) ∈ H) (hj : (j, Ent.rows (ints bs) 1 3) ∈ H) (hm : m = us.length) (hm' : m' = bs.length)
    (h1 : Sofar3 n tl us cnt) (h2 : bs = matBias n cnt) (h3 : ∀ x ∈ bs, i64 x) (h4 : bs.length ≤ 1000000) : finK B (.tup [.os i m, .os j m']) H S nx (MatPost w n tl cnt) := by
  subst hw0 hm hm'
  refine fin_of fun ρ w' hw => ?_
  have hn := new_of_abs hw hb he
  have hn2 := new_of_abs hw hb hj
  rw [shRows_length] at hn
  rw [ints_length] at hn2
  obtain ⟨base, cap, e, hc, hD⟩ := newSlicesM hn
  obtain ⟨u, f1, f2, f3, f4⟩ := newInts hn2 h3 h4
  refine ⟨⟨⟨base, cap, us⟩, u, true⟩, ⟨h1.rows, by rw [← h2]; exact f2, h1.sane, f3, fun h => by cases h⟩, ?_, ext_of_abs hw hb, hD, fun _ => ⟨fun v hv => past_new hw (D := intsA v) fun R w' h => hE R w' h v hv, f4⟩⟩
  show Ending.returned (.tuple #[(SV.os i us.length).rf ρ, (SV.os j bs.length).rf ρ]) = _
  rw [e, f1]; rfl
theorem pool_row {n : NodeV} {t : IntsV} (hk : n.kind = 5) {size : Nat} (hsz : entries t.xs = size) (o : Nat) {T : List Sp} (hT : T = poolT n.size (t.xs.getD 1 0) (t.xs.getD 2 0) o) {m : Nat} (hm : m = T.length) : rowP T size m = matRow n t.xs o := by
  subst hT hm
  unfold matRow termsG rowP
  rw [if_neg (by omega), if_neg (by omega), if_neg (by omega), List.take_of_length_le (Nat.le_refl _), hsz]; rfl
theorem pos_lt {c y x H W k m n : Int} (hm : m = (c * H + y) * W + x) (hn : n = k * H * W) (hx : 0 ≤ x ∧ x < W) (hy : 0 ≤ y ∧ y < H) (hc : c < k) : m < n := by
  have u1 : (c * H + y) * W + x < (c * H + y + 1) * W := by rw [Int.add_mul _ 1]; omega
  have u2 : c * H + y + 1 ≤ (c + 1) * H := by rw [Int.add_mul]; omega
  have u3 : (c * H + y + 1) * W ≤ (c + 1) * H * W := Int.mul_le_mul_of_nonneg_right u2 (by omega)
  have u4 : (c + 1) * H * W ≤ k * H * W := Int.mul_le_mul_of_nonneg_right (Int.mul_le_mul_of_nonneg_right (by omega) (by omega)) (by omega)
  omega
theorem poolT_at {T : List Sp} {z i1 i2 W H c y x i j : Int} {m p : Nat} (hT : T = poolT z i1 i2 m) (hWd : i2 / z = W) (hHd : i1 / z = H) (hmx : (m : Int) = (c * H + y) * W + x) (hx : 0 ≤ x ∧ x < W) (hy : 0 ≤ y ∧ y < H) (hp : p < T.length) (he : (p : Int) = i * z + j) (hj : 0 ≤ j ∧ j < z) : T[p] = (1, (c * i1 + y * z + i) * i2 + x * z + j) := by
  subst hT
  have hpos := pos3 hmx hx hy
  have hq := mul_add_div (A := i) (x := j) (m := z) hj
  simp only [poolT, List.getElem_map, List.getElem_range]
  unfold poolTerm
  rw [hWd, hHd, hpos.1, hpos.2.1, hpos.2.2, he, hq.1, hq.2]
theorem poolT_bd {T : List Sp} {z i1 i2 o : Int} (hT : T = poolT z i1 i2 o) : ∀ t ∈ T, bd20 t.1 := fun t ht => by
  subst hT
  obtain ⟨k, _, rfl⟩ := List.mem_map.1 ht
  exact ⟨(show (-1048576 : Int) ≤ 1 by decide), (show (1 : Int) ≤ 1048576 by decide)⟩
theorem sq_lt {p : Nat} {L z i j : Int} (hL : L = z * z) (hp : (p : Int) = i * z + j) (hi : i < z) (hj : 0 ≤ j ∧ j < z) : p < L := by
  have u1 : (i + 1) * z ≤ z * z := Int.mul_le_mul_of_nonneg_right (by omega) (by omega)
  rw [Int.add_mul, Int.one_mul] at u1
  omega
theorem ix_bd {c i1 y z i i2 x : Int} (hc : 0 ≤ c ∧ c ≤ 64) (h1 : 0 ≤ i1 ∧ i1 ≤ 64) (hy : 0 ≤ y ∧ y ≤ 64) (hz : 0 ≤ z ∧ z ≤ 64) (hi : 0 ≤ i ∧ i ≤ 64) (h2 : 0 ≤ i2 ∧ i2 ≤ 64) (hx : 0 ≤ x ∧ x ≤ 64) : (0 ≤ c * i1 ∧ c * i1 ≤ 4096) ∧ (0 ≤ y * z ∧ y * z ≤ 4096) ∧ (0 ≤ (c * i1 + y * z + i) * i2 ∧ (c * i1 + y * z + i) * i2 ≤ 576000) ∧ (0 ≤ x * z ∧ x * z ≤ 4096) := by
  have e1 := nn_bd (a := c) (b := i1) (A := 64) (B := 64) hc h1
  have e2 := nn_bd (a := y) (b := z) (A := 64) (B := 64) hy hz
  have e3 := nn_bd (a := c * i1 + y * z + i) (b := i2) (A := 9000) (B := 64) (by omega) h2
  have e4 := nn_bd (a := x) (b := z) (A := 64) (B := 64) hx hz
  omega
theorem rows_snocM (us : List IntsV) (base : Option Addr) (cap : Nat) (xs : List Int) {m k : Nat} (hm : m = us.length) (hk : k = xs.length) {i : Nat} {T : TypeId} {H : Heap} : (i, Ent.rows (shRows (us ++ [IntsV.mk base cap xs])) 1 T) ∈ (i, Ent.rows (List.take m (shRows us) ++ [[.slice base k cap]]) 1 T) :: H := by
  subst hm hk; exact rows_snoc us _
theorem ints_zeros (k : Nat) : ints (List.replicate k 0) = List.replicate k [Value.int .i64 0] := by simp [ints]
end Go.Proofs.Ytdmkdogakbipbaa

