import Derived.Test.YtdmkdogakbipbaaRows
import Derived.Test.YtdmkdogakbipbaaKLinearMade8
/- HB -/
namespace Go.Proofs.Ytdmkdogakbipbaa
open Go.SX Go.RowKit Go.ChangeShapes Go.WideShapes Go.ChangeAt
structure BytesV.raw (w : World) (t : BytesV) : Prop where
  rows : RowsI w t.base 1 (bytesR t.bs)
  fits : ∀ x ∈ t.bs, x ≤ 255
theorem addr_plain {w : World} {a : Addr} {v : Value} (h : w.cell? a = some v) : a = ⟨a.block, a.off, none⟩ := by
  obtain ⟨b, o, p⟩ := a
  cases p with
  | none => rfl
  | some x =>
    simp only [World.cell?, Option.isSome_some, if_true] at h
    split at h <;> cases h
theorem bytesD_raw {w : World} {t : BytesV} (h : t.raw w) : (bytesD t).holds (fun b => b < w.heap.size) w := by
  refine ⟨fun r hr => ?_, ?_⟩
  · simp only [bytesR, List.mem_map] at hr
    obtain ⟨x, _, rfl⟩ := hr
    exact ⟨rfl, fun v hv => by simp at hv; subst hv; rfl⟩
  rcases h.rows with h0 | ⟨a, ha, hc⟩
  · exact .inl h0
  · cases hl : t.bs with
    | nil => exact .inl rfl
    | cons x r =>
      have h1 : w.cell? (a.add (0 * 1 + 0)) = some (.int .u8 (x : Int)) := hc 0 [.int .u8 (x : Int)] (by rw [hl]; rfl) 0 _ rfl
      have h2 : a.add (0 * 1 + 0) = a := by simp [Addr.add]
      rw [h2] at h1
      have ea := addr_plain h1
      refine .inr ⟨a.block, a.off, by rw [ha, ← ea], cell_block h1, fun i q hi j v hj => ?_⟩
      have := hc i q (by rw [hl]; exact hi) j v hj
      rw [ea, add_none] at this
      exact this
theorem base_bytes {w w' : World} {R : Nat → Prop} {t : BytesV} (h : t.raw w) (hb : (baseA w).holds R w') : (bytesD t).holds R w' :=
  (bytesD t).stable (fun b hb' => (hb b hb').1) (fun b hb' => (hb b hb').2) (bytesD_raw h)
theorem wf_u8' {x : Int} (h : (Lit.int .u8 x).wf = true) : 0 ≤ x ∧ x ≤ 255 := by
  simp [Lit.wf, IntKind.min, IntKind.max, IntKind.signed, IntKind.bits] at h
  omega
theorem opens_bytes (w : World) : Opens Try.prog w 22 fun cs => ∃ t : BytesV, cs = [t.val] ∧ t.raw w := by
  refine Opens.mono (opens_slice (k := 1) Try.underlying22 (by kernel_rfl) (opens_int Try.underlying5)) ?_
  rintro cs ⟨base, cap, xs, rfl, h1, h2, h3, h4, h5⟩
  obtain ⟨l, rfl, hl⟩ := list_map_of (f := fun (i : Nat) => [Value.int .u8 (i : Int)]) (p := fun i => i ≤ 255) fun r hr => by
    obtain ⟨_, i, hi, rfl⟩ := h2 r hr
    have := wf_u8' hi
    exact ⟨i.toNat, by omega, by rw [show ((i.toNat : Nat) : Int) = i by omega]⟩
  exact ⟨⟨base, cap, l⟩, by simp [BytesV.val], h1, hl⟩

end Go.Proofs.Ytdmkdogakbipbaa

/- JCa -/
namespace Go.Proofs.Ytdmkdogakbipbaa
open Go.SX Go.RowKit
theorem call_inputs {cx : Cx} {f : FuncId} {H : Heap} {S : Asn} {nx i : Nat} {K : SV → Heap → Asn → Nat → Prop} (t : BytesV) (k : Nat) (gb : Option Addr) (gc : Nat) (l : List NodeV) (out : Int) (hi : (i, Ent.box (cs (tcells t k)) 30) ∈ H) (hf : ∀ ar w, (callFunc f ar).run cx.P w = .ok (.enter f ar) w)
    (hsm : t.bs.length ≤ 1000000) (hby : ∀ x ∈ t.bs, x ≤ 255) (hk : k ≤ t.bs.length) (hS : ∀ R w', S.holds R w' → (bytesD t).holds R w') (hlen : l.length ≤ 24) (hr : ∀ R w', S.holds R w' → (rowsA gb 9 (nodeRows l)).holds R w') (hnd : ∀ R w', S.holds R w' → (nodesD l).holds R w') (hn : ∀ n ∈ l, NodeRd n)
    (hc : ∀ w' b, TapeOk w' b t k → (rowsA gb 9 (nodeRows l)).holds (oth w' b) w' → (nodesD l).holds (oth w' b) w' → Calls cx.P f #[.agg #[.slice gb l.length gc, .int .i64 out], .pointer (some ⟨b, 0, none⟩)] w' (InputsPost w' b t l))
    (h : ∀ x k', InpOut l x → K (.c x.val) (setH i (.box (cs (tcells t k')) 30) H) (S.and ((shapesD x).past cx.B.w0.heap.size)) nx) : callK cx f [.agg [.c (.slice gb l.length gc), .c (.int .i64 out)], .lp i 0 0 0] H S nx K := by
  refine call_box hi hf (fun x : ShapesV × Nat => x.1.val) (fun x => tcells t x.2) (fun x => shapesD x.1) (fun x => InpOut l x.1 ∧ x.2 ≤ t.bs.length) ?_ (fun x hx => h x.1 x.2 hx.1)
  intro R ρ w' b hw hR hRo hρ hb
  rw [rfs_cs] at hb
  have := hc w' b ⟨hsm, hby, (bytesD t).mono (hS R w' hR) hRo, hk, hb⟩ ((rowsA gb 9 (nodeRows l)).mono (hr R w' hR) hRo) ((nodesD l).mono (hnd R w' hR) hRo)
  have e : SV.rfs ρ [.agg [.c (.slice gb l.length gc), .c (.int .i64 out)], .lp i 0 0 0] = [.agg #[.slice gb l.length gc, .int .i64 out], .pointer (some ⟨b, 0, none⟩)] := by
    simp only [SV.rfs, SV.rf, hρ, Option.map_some, add_none]
  rw [e]
  exact this
theorem made_check {l : List NodeV} (hml : MadeL l) (h24 : l.length ≤ 24) : ∃ sh, checkR l [] = (0, sh) ∧ ∀ base cap out, 0 ≤ out → out < (l.length : Int) → check ⟨base, cap, l, out⟩ = (0, sh) := by
  obtain ⟨sh, hsh, _⟩ := hml.shapes
  exact ⟨sh, hsh, fun base cap out h0 h1 => check_made hml.one h24 ⟨h0, h1⟩ hsh⟩
theorem made_spans {l : List NodeV} {sh : List (List Int)} (hck : ∀ base cap out, 0 ≤ out → out < (l.length : Int) → check ⟨base, cap, l, out⟩ = (0, sh)) (base : Option Addr) (cap : Nat) (out : Int) (h0 : 0 ≤ out) (h1 : out < l.length) : spansH ⟨base, cap, l, out⟩ = spansQ sh l [] ∧ ∀ inp, valsH ⟨base, cap, l, out⟩ inp = valsQ sh l [] inp := by
  unfold spansH valsH
  rw [hck base cap out h0 h1]
  exact ⟨rfl, fun _ => rfl⟩
theorem made_read {l : List NodeV} (hml : MadeL l) (h24 : l.length ≤ 24) : ∀ n ∈ l, NodeRd n := by
  obtain ⟨sh, hsh, hck⟩ := made_check hml h24
  have h1 := hml.one
  have hc := hck none 0 0 (Int.le_refl _) (by omega)
  obtain ⟨_, _, _, _, hin⟩ := check_in (g := ⟨none, 0, l, 0⟩) (by rw [hc])
  intro n hn
  obtain ⟨i, hi⟩ := List.mem_iff_getElem?.1 hn
  obtain ⟨s, hs, hni⟩ := hin i n hi
  obtain ⟨nd, nb, nlo, nhi, nle⟩ := near_in hni.near
  exact ⟨hml.each n hn, nlo, nhi, nle⟩
end Go.Proofs.Ytdmkdogakbipbaa

/- KA -/
namespace Go.Proofs.Ytdmkdogakbipbaa
open Go.SX Go.RowKit
/-- a made graph, whose shapes are known -/
structure MadeS (l : List NodeV) (sh : List (List Int)) : Prop where
  made : MadeL l
  shapes : checkR l [] = (0, sh)
  ok : ∀ s ∈ sh, ShOk s
theorem MadeL.s {l : List NodeV} (h : MadeL l) : ∃ sh, MadeS l sh := by
  obtain ⟨sh, h1, h2⟩ := h.shapes
  exact ⟨sh, h, h1, h2⟩
theorem MadeS.len {l : List NodeV} {sh : List (List Int)} (h : MadeS l sh) : sh.length = l.length := by
  have := checkR_length l [] (by rw [h.shapes])
  rw [h.shapes] at this
  simpa using this
theorem MadeS.snoc {l : List NodeV} {sh : List (List Int)} {n : NodeV} (h : MadeS l sh) (hn : GoodNode n sh) {s : List Int} (hs : shapeO n sh = some s) : MadeS (l ++ [n]) (sh ++ [s]) := by
  obtain ⟨s', h1, h2⟩ := hn.shape
  obtain rfl : s' = s := by rw [hs] at h1; simpa using h1.symm
  exact ⟨madeL_snoc h.made h.shapes hn h.ok, checkR_snoc h.shapes hn.form hs hn.near, fun x hx => by
    rcases List.mem_append.1 hx with hx | hx
    · exact h.ok x hx
    · simp at hx; subst hx; exact h2⟩
theorem MadeS.check {l : List NodeV} {sh : List (List Int)} (h : MadeS l sh) (h24 : l.length ≤ 24) (base : Option Addr) (cap : Nat) {out : Int} (h0 : 0 ≤ out) (h1 : out < l.length) : check ⟨base, cap, l, out⟩ = (0, sh) := check_made h.made.one h24 ⟨h0, h1⟩ h.shapes
theorem MadeS.a {l : List NodeV} {sh : List (List Int)} (h : MadeS l sh) (h24 : l.length ≤ 24) : ∀ n ∈ l, n.a.toNat < sh.length := by
  have h1 := h.made.one
  have hc := h.check h24 none 0 (out := 0) (Int.le_refl _) (by omega)
  intro n hn
  obtain ⟨i, hi⟩ := List.mem_iff_getElem?.1 hn
  have := (place_in (g := ⟨none, 0, l, 0⟩) (by rw [hc]) hi).1.2.1
  rw [hc] at this
  exact this
/-- of inputs that go with the nodes: the spans are beyond the bound, or each node's numbers are told -/
theorem MadeS.run {l : List NodeV} {sh inp : List (List Int)} (h : MadeS l sh) (h24 : l.length ≤ 24) (hg : goodIn l inp) (hsp : (spansQ sh l []).1 = 0) : ∃ vals, valsQ sh l [] inp = (0, vals) ∧ vals.length = l.length ∧ (∀ i, i < l.length → (∀ x ∈ vals.getD i [], bd20 x) ∧ ((vals.getD i []).length : Int) = entries (sh.getD i [])) ∧ ∀ base cap (out : Int), 0 ≤ out → out < l.length → runH ⟨base, cap, l, out⟩ inp = (0, vals.getD out.toNat []) := by
  have h1 := h.made.one
  have hc := fun base cap (out : Int) (h0 : 0 ≤ out) (h1 : out < l.length) => h.check h24 base cap h0 h1
  have hS := made_spans hc
  obtain ⟨q1, q2⟩ := hS none 0 0 (Int.le_refl _) (by omega)
  obtain ⟨kn, v1, v2⟩ := vals_run (g := ⟨none, 0, l, 0⟩) (by rw [q1]; exact hsp) (k := 0) (kn := []) (Nat.zero_le _) rfl ⟨rfl, fun u hu => by simp at hu, fun j u s q hu => by simp at hu⟩ hg
  rw [hc none 0 0 (Int.le_refl _) (by omega)] at v1
  have hkl : kn.length = l.length := v2.len
  have v1 : valsQ sh l [] inp = (0, kn.map IntsV.xs) := v1
  refine ⟨kn.map IntsV.xs, v1, by rw [List.length_map, hkl], fun i hi => ?_, fun base cap out h0 h1 => ?_⟩
  · have := known_argH (g := ⟨none, 0, l, 0⟩) (by rw [q1]; exact hsp) v2 (Nat.le_refl _) i
    rw [← getD_xs]
    refine ⟨this.2.1, ?_⟩
    have e := this.2.2 hi
    rw [hc none 0 0 (Int.le_refl _) (by omega)] at e
    rw [e, List.take_of_length_le (by rw [h.len]; exact Nat.le_refl _)]
  · obtain ⟨r1, r2⟩ := hS base cap out h0 h1
    unfold runH
    rw [r1, r2, if_neg (by omega), v1, if_neg (by simp)]
theorem numsA_plain {n : NodeV} {cnt : Nat} {t a b : List Int} (h : ¬ isLin n) : numsA n cnt t a b = (List.range cnt).map (numAt n a b) := if_neg h
end Go.Proofs.Ytdmkdogakbipbaa

/- LQ -/
namespace Go.Proofs.Ytdmkdogakbipbaa
open Go.RowKit Go.SX
instance (rows : List (List Int)) (fr to : List Int) (slots : Int) : Decidable (diagOk rows fr to slots) := by unfold diagOk; infer_instance
def diagL (rows : List (List Int)) (fr to : List Int) (slots : Int) : List (List Int) × Int := if diagOk rows fr to slots then (outerD slots.toNat rows fr to to.length, 0) else ([], 3)
theorem diag_fail2 {w : World} {B : Base} {H : Heap} {S : Asn} {nx : Nat} {rows : List (List Int)} {fr to : List Int} {slots : Int} (hno : ¬ diagOk rows fr to slots) (hb : ∀ R w', S.holds R w' → (baseA B.w0).holds R w') (hw0 : B.w0 = w) : finK B (.tup [.c (.slice none 0 0), .c (.int .i64 3)]) H S nx (DiagPost w (diagL rows fr to slots).1 (diagL rows fr to slots).2) := by
  rw [diagL, if_neg hno]; exact diag_fail hb hw0
theorem containsOff_own {B : Base} {ρ : Nat → SX.Loc} {nx : Nat} {H : Heap} {S : Asn} {w : World} {T : TypeId} {fv : IntsV} (hw : Abs B ρ nx H S w) (he : (0, Ent.box [.c fv.val] T) ∈ H) (rv : ShapesV) (hr : rv.okB w) :
    Calls Try.prog 61 (SV.rfs ρ [.c rv.val, .fn (.func 62) [] [.lp 0 0 0 0]]).toArray w fun e w' => e = .returned (.bool (rv.l.any fun u => decide (u.xs.length ≠ fv.xs.length))) ∧ Ext w w' := by
  obtain ⟨R, φ, hw⟩ := hw
  obtain ⟨b, h1, h2, h3⟩ := hw.ent _ he
  simp only at h1
  have ha : (SV.rfs ρ [.c rv.val, .fn (.func 62) [] [.lp 0 0 0 0]]).toArray = #[rv.val, .func (.func 62) #[] #[.pointer (some ⟨b, 0, none⟩)]] := by
    simp [SV.rfs, SV.rf, h1, Addr.add]
  rw [ha]
  exact containsOff_any w rv hr ⟨b, 0, none⟩ fv.base fv.xs.length fv.cap (by simp [World.cell?, h3, SV.rfs, SV.rf, IntsV.val])
theorem off_all {l : List IntsV} {n : Nat} (h : (l.any fun u => decide (u.xs.length ≠ n)) = false) : ∀ r ∈ l.map IntsV.xs, r.length = n := by
  intro r hr
  obtain ⟨u, hu, rfl⟩ := List.mem_map.1 hr
  have := List.any_eq_false.1 h u hu
  simpa using this
theorem off_some {l : List IntsV} {n : Nat} (h : (l.any fun u => decide (u.xs.length ≠ n)) = true) (hall : ∀ r ∈ l.map IntsV.xs, r.length = n) : False := by
  obtain ⟨u, hu, hx⟩ := List.any_eq_true.1 h
  exact absurd (hall _ (List.mem_map.2 ⟨u, hu, rfl⟩)) (by simpa using hx)
theorem rem_is {x y z : Int} {K : Int → Prop} (h0 : 0 ≤ x) (hy : y ≠ 0) (e : x % y = z) (h : K z) : remK x y K := rem_pos h0 hy (by rw [e]; exact h)
theorem add_frame (b off k : Nat) : (⟨b, off, none⟩ : Addr).add (k * 1) = ⟨b, off + k, none⟩ := by simp [Addr.add]
theorem setD_fits {L : List DCell} {d : Nat} {p : DCell} (h : ∀ p ∈ L, ∀ x ∈ p.2, i64 x) (hp : ∀ x ∈ p.2, i64 x) : ∀ q ∈ L.set d p, ∀ x ∈ q.2, i64 x := fun q hq => by
  rcases List.mem_or_eq_of_mem_set hq with hq | hq
  · exact h q hq
  · rw [hq]; exact hp
theorem set_fits {l : List Int} {k : Nat} {x : Int} (h : ∀ y ∈ l, i64 y) (hx : i64 x) : ∀ y ∈ l.set k x, i64 y := fun y hy => by
  rcases List.mem_or_eq_of_mem_set hy with hy | hy
  · exact h y hy
  · rw [hy]; exact hx
theorem getD_fits {l : List Int} (h : ∀ y ∈ l, i64 y) (k : Nat) : i64 (l.getD k 0) := by
  rcases Nat.lt_or_ge k l.length with g | g
  · have e : l.getD k 0 = l[k] := by simp [List.getD, g]
    rw [e]; exact h _ (List.getElem_mem g)
  · have e : l.getD k 0 = 0 := by simp [List.getD, g]
    rw [e]; exact ⟨by decide, by decide⟩
theorem repl_set (n s : Nat) (x : Int) : (List.replicate n (Value.int .i64 0)).set s (.int .i64 x) = ((List.replicate n (0 : Int)).set s x).map (Value.int .i64) := by simp [List.map_set]
theorem ro_iv {a : Addr} {j : Nat} {S : Asn} {xs : List Int} {v : Int} {K : SV → Prop} (hx : ∀ R w, S.holds R w → RowsI w (some a) 1 (ints xs)) (hj : j < xs.length) (e : xs.getD j 0 = v) (h : K (.c (.int .i64 v))) : roK (a.add (j * 1)) S K := by
  subst e; exact ro_int hx hj h
theorem List.set_eq_self {α : Type} {l : List α} {d : Nat} {x : α} (h : l[d]? = some x) : l.set d x = l := by
  apply List.ext_getElem?
  intro i
  rw [List.getElem?_set]
  split
  · rename_i e; subst e; split
    · exact h.symm
    · rw [List.getElem?_eq_none (by omega)]
  · rfl
set_option maxHeartbeats 2000000 in
theorem diag_any (w : World) (rv : ShapesV) (hr : rv.okB w) (fv tv : IntsV) (hfv : fv.ok w) (htv : tv.ok w) (slots : Int) (hs : i64 slots) :
    Calls Try.prog 31 #[rv.val, fv.val, tv.val, .int .i64 slots] w (DiagPost w (diagL (rv.l.map IntsV.xs) fv.xs tv.xs slots).1 (diagL (rv.l.map IntsV.xs) fv.xs tv.xs slots).2) := by
  have hr1 := hr.few
  have hf1 := hfv.few
  have ht1 := htv.few
  obtain ⟨hs1, hs2⟩ := hs
  have hrl : (rv.l.map IntsV.xs).length = rv.l.length := List.length_map _
  refine calls_of tab tabOk Try.func31 rfl rfl rfl [] (fun _ => ⟨none, 0⟩) [.c rv.val, .c fv.val, .c tv.val, .c (.int .i64 slots)] [] (baseA w) 0 rfl rfl (by show 4 ≤ _; decide) (abs_base w) ?_
  (repeat' ((conv => whnf) <;> first | (show callK _ 60 [.c fv.val, .c (.int .i64 slots)] _ _ _ _; refine call_bool (f := 60) Try.call60 _ (fun ρ w' hw => places_any w' fv (holds_of_abs hw fun R h => hfv.later h) slots) (fun hp1 => ?_) (fun hp1 => ?_)) | (show callK _ 60 [.c tv.val, .c (.int .i64 slots)] _ _ _ _; refine call_bool (f := 60) Try.call60 _ (fun ρ w' hw => places_any w' tv (holds_of_abs hw fun R h => htv.later h) slots) (fun hp2 => ?_) (fun hp2 => ?_)) | (show callK _ 61 _ _ _ _ _; (refine call_bool (f := 61) Try.call61 _ (fun ρ w' hw => containsOff_own (fv := fv) hw (by repeat (first | exact List.mem_cons_self | apply List.mem_cons_of_mem)) rv (holds_of_abs hw fun R h => hr.later h)) (fun hp3 => ?_) (fun hp3 => ?_))) | (show makeK _ _ _ _; (refine make_of slots.toNat (by omega) (by omega) (by show 24 * _ ≤ _; omega) (by omega) ?_)) | (show Wp _ _ _ _ _ _ _; refine Wp.go tabOk rfl ?_) | (show @cmpK _ _ _; (first | refine cmpY ?_ | refine cmpN ?_ | (refine cmp_both ?_ ?_ <;> intro _))) | (show wrapK _ _ _; refine wrapA ?_) | (show leK _ _ _; refine leA ?_) | (show roomK _ _ _; refine roomA ?_) | (show ltK _ _ _; refine ltA ?_) | (show _ ∧ _; refine ⟨?_, ?_⟩) | (show keepK _ _ _ _ _; refine keepA ?_) | refine own_keep ?_ | refine ap_old ?_))
  all_goals (conv => whnf)
  all_goals first | exact diag_fail2 (fun h => by have := h.1; have := h.2.1; have := h.2.2.1; omega) (fun _ _ h => h) rfl | exact diag_fail2 (fun h => Bool.false_ne_true (hp1.symm.trans h.2.2.2.1)) (fun _ _ h => h) rfl | exact diag_fail2 (fun h => Bool.false_ne_true (hp2.symm.trans h.2.2.2.2.1)) (fun _ _ h => h) rfl | exact diag_fail2 (fun h => off_some hp3 h.2.2.2.2.2) (fun _ _ h => h) rfl | skip
  have hok : diagOk (rv.l.map IntsV.xs) fv.xs tv.xs slots := ⟨by omega, by omega, by omega, hp1, hp2, off_all hp3⟩
  rw [diagL, if_pos hok]
  obtain ⟨n, hn⟩ : ∃ n : Nat, slots = n := ⟨slots.toNat, by omega⟩
  subst hn
  rw [Int.toNat_natCast]
  have hfr := (placesL_of hp1).1
  have hto := (placesL_of hp2).1
  refine Wp.grp 3 n ?_
  refine Wp.loop (σ := Nat × List DCell) 3 (fun s => [(0, .c rv.val), (3, .c (.int .i64 n)), (5, .lp 0 0 0 0), (10, .os 1 n), (49, .c tv.val), (50, .c (.int .i64 tv.xs.length)), (51, .c (.int .i64 s.1))])
    (fun s => [(0, .box [.c fv.val] 33), (1, .rows (dRows s.2) 1 33), (2, .ext (grpO 3 (dGrp s.2)))]) (fun _ => baseA w)
    (fun s => DOk n s.2 ∧ (∀ p ∈ s.2, ∀ x ∈ p.2, i64 x) ∧ s.2.map Prod.snd = outerD n (rv.l.map IntsV.xs) fv.xs tv.xs s.1 ∧ s.1 ≤ tv.xs.length) (fun s => tv.xs.length - s.1) (0, nilD n) [] (by decide) (fun s => ⟨rfl, rfl⟩)
    ⟨nilD_ok n, (fun p hp x hx => by rw [(List.mem_replicate.1 hp).2] at hx; cases hx), by rw [nilD_snd]; rfl, Nat.zero_le _⟩ ⟨rfl, ⟨rfl, rfl, rfl, rfl, rfl, rfl, rfl, trivial⟩, ?_, fun _ _ h => h⟩ ?_
  · show heapInto [] _ [(0, .box [.c fv.val] 33), (1, .rows (dRows (nilD n)) 1 33), (2, .ext (grpO 3 (dGrp (nilD n))))]
    rw [dRows_nil, dGrp_nil]
    exact ⟨(by repeat (first | exact List.mem_cons_self | apply List.mem_cons_of_mem)), (by repeat (first | exact List.mem_cons_self | apply List.mem_cons_of_mem)), (by repeat (first | exact List.mem_cons_self | apply List.mem_cons_of_mem)), trivial⟩
  rintro ⟨o, L⟩ ⟨hL, hLf, hLs, hol⟩
  dsimp only at hL hLf hLs hol
  by_cases hlt : o < tv.xs.length
  · obtain ⟨ta, hta⟩ := htv.base (by omega)
    have htr : ∀ (R : Nat → Prop) w', (baseA w).holds R w' → RowsI w' (some ta) 1 (ints tv.xs) := fun R w' h => by rw [← hta]; exact rows_base h htv.rows
    have hrlt : o < rv.l.length := by omega
    have hsb : 0 ≤ tv.xs.getD o 0 ∧ tv.xs.getD o 0 < n := by
      have e : tv.xs.getD o 0 = tv.xs[o] := by simp [List.getD, hlt]
      rw [e]; exact hto _ (List.getElem_mem hlt)
    obtain ⟨sv, hsv⟩ : ∃ sv, tv.xs.getD o 0 = sv := ⟨_, rfl⟩
    (repeat' ((conv => whnf) <;> first | (show idxK _ _ _ _ _; refine idx_of ta o hta rfl hlt ?_) | (show roK _ _ _; refine ro_int htr (j := o) hlt ?_) | (show Wp _ _ _ _ _ _ _; refine Wp.go tabOk rfl ?_) | (show @cmpK _ _ _; (first | refine cmpY ?_ | refine cmpN ?_ | (refine cmp_both ?_ ?_ <;> intro _))) | (show wrapK _ _ _; refine wrapA ?_) | (show leK _ _ _; refine leA ?_) | (show roomK _ _ _; refine roomA ?_) | (show ltK _ _ _; refine ltA ?_) | (show _ ∧ _; refine ⟨?_, ?_⟩) | (show keepK _ _ _ _ _; refine keepA ?_) | refine own_keep ?_ | refine ap_old ?_))
    all_goals (conv => whnf)
    have hrow : (rv.l.map IntsV.xs).getD o [] = rv.l[o].xs := by simp [List.getD, hrlt]
    have hrlen : rv.l[o].xs.length = fv.xs.length := off_all hp3 _ (List.mem_map.2 ⟨_, List.getElem_mem hrlt, rfl⟩)
    have hro := hr.each rv.l[o] (List.getElem_mem hrlt)
    obtain ⟨ra, hra⟩ : ∃ a, rv.base = some a := base_some (j := o) hr.rows (by rw [shRows_length]; exact hrlt)
    rw [hsv] at hsb ⊢
    refine Wp.loop (σ := Nat × List DCell) 3 (fun s => [(0, .c rv.val), (3, .c (.int .i64 n)), (5, .lp 0 0 0 0), (10, .os 1 n), (49, .c tv.val), (50, .c (.int .i64 tv.xs.length)), (51, .c (.int .i64 o)), (11, .c (.int .i64 o)), (12, .c (.int .i64 sv)), (56, .c fv.val), (57, .c (.int .i64 fv.xs.length)), (58, .c (.int .i64 s.1))])
      (fun s => [(0, .box [.c fv.val] 33), (1, .rows (dRows s.2) 1 33), (2, .ext (grpO 3 (dGrp s.2)))]) (fun _ => baseA w)
      (fun s => DOk n s.2 ∧ (∀ p ∈ s.2, ∀ x ∈ p.2, i64 x) ∧ s.2.map Prod.snd = innerD n fv.xs rv.l[o].xs sv (outerD n (rv.l.map IntsV.xs) fv.xs tv.xs o) s.1 ∧ s.1 ≤ fv.xs.length) (fun s => fv.xs.length - s.1) (0, L) [] (by decide) (fun s => ⟨rfl, rfl⟩)
      ⟨hL, hLf, hLs, Nat.zero_le _⟩ ⟨rfl, ⟨rfl, rfl, rfl, rfl, rfl, rfl, rfl, rfl, rfl, rfl, rfl, rfl, trivial⟩, ⟨(by repeat (first | exact List.mem_cons_self | apply List.mem_cons_of_mem)), (by repeat (first | exact List.mem_cons_self | apply List.mem_cons_of_mem)), (by repeat (first | exact List.mem_cons_self | apply List.mem_cons_of_mem)), trivial⟩, fun _ _ h => h⟩ ?_
    clear hL hLf hLs
    rintro ⟨i, M⟩ ⟨hM, hMf, hMs, hil⟩
    dsimp only at hM hMf hMs hil
    by_cases hli : i < fv.xs.length
    · obtain ⟨fa, hfa⟩ := hfv.base (by omega)
      have hfr' : ∀ (R : Nat → Prop) w', (baseA w).holds R w' → RowsI w' (some fa) 1 (ints fv.xs) := fun R w' h => by rw [← hfa]; exact rows_base h hfv.rows
      obtain ⟨wa, hwa⟩ := hro.base (by omega)
      have hwr : ∀ (R : Nat → Prop) w', (baseA w).holds R w' → RowsI w' (some wa) 1 (ints rv.l[o].xs) := fun R w' h => by rw [← hwa]; exact rows_base h hro.rows
      have hfb : 0 ≤ fv.xs.getD i 0 ∧ fv.xs.getD i 0 < n := by
        have e : fv.xs.getD i 0 = fv.xs[i] := by simp [List.getD, hli]
        rw [e]; exact hfr _ (List.getElem_mem hli)
      have hwf := getD_fits hro.fits i
      have hstep := innerD_succ n fv.xs rv.l[o].xs sv (outerD n (rv.l.map IntsV.xs) fv.xs tv.xs o) i
      rw [← hMs] at hstep
      obtain ⟨fi, hfi⟩ : ∃ x, fv.xs.getD i 0 = x := ⟨_, rfl⟩
      obtain ⟨wi, hwi⟩ : ∃ x, rv.l[o].xs.getD i 0 = x := ⟨_, rfl⟩
      rw [hfi] at hfb hstep
      rw [hwi] at hwf hstep
      by_cases hw0 : wi = 0
      · (repeat' ((conv => whnf) <;> first | (show idxK _ _ _ _ _; (first | refine idx_of fa i hfa rfl hli ?_ | refine idx_of ra o hra rfl hrlt ?_ | refine idx_of wa i hwa rfl (by omega) ?_)) | (show roK _ _ _; (first | refine ro_iv hfr' (j := i) hli hfi ?_ | refine ro_row0 (fun R w' h => by rw [← hra]; exact rows_base h hr.rows) _ _ (shRows_get hrlt) rfl ?_ | refine ro_iv hwr (j := i) (by omega) hwi ?_)) | (show Wp _ _ _ _ _ _ _; refine Wp.go tabOk rfl ?_) | (show @cmpK _ _ _; (first | refine cmpY ?_ | refine cmpN ?_ | (refine cmp_both ?_ ?_ <;> intro _))) | (show wrapK _ _ _; refine wrapA ?_) | (show leK _ _ _; refine leA ?_) | (show roomK _ _ _; refine roomA ?_) | (show ltK _ _ _; refine ltA ?_) | (show _ ∧ _; refine ⟨?_, ?_⟩) | (show keepK _ _ _ _ _; refine keepA ?_) | refine own_keep ?_ | refine ap_old ?_))
        all_goals (conv => whnf)
        exact ⟨(i + 1, M), [], ⟨hM, hMf, by rw [hstep, stepP, if_pos hw0], hli⟩, by show fv.xs.length - (i + 1) < fv.xs.length - i; omega, rfl, ⟨rfl, rfl, rfl, rfl, rfl, rfl, rfl, rfl, rfl, rfl, rfl, rfl, trivial⟩, ⟨(by repeat (first | exact List.mem_cons_self | apply List.mem_cons_of_mem)), (by repeat (first | exact List.mem_cons_self | apply List.mem_cons_of_mem)), (by repeat (first | exact List.mem_cons_self | apply List.mem_cons_of_mem)), trivial⟩, fun _ _ h => h⟩
      · obtain ⟨d, hdd, hdn, hd0⟩ := dpos hsb hfb
        have hMd : d < M.length := by rw [hM.len]; exact hdn
        have hdl := dRows_length M
        obtain ⟨q, hq⟩ : ∃ q, M[d]? = some q := ⟨_, List.getElem?_eq_getElem hMd⟩
        have hqm := List.mem_of_getElem? hq
        obtain ⟨sn, hsn⟩ : ∃ k : Nat, sv = k := ⟨sv.toNat, by omega⟩
        have hsn2 : sv.toNat = sn := by omega
        rcases hM.each q hqm with ⟨e1, e2⟩ | ⟨⟨b, off, e1⟩, e2, e3⟩
        · obtain ⟨ql, qv⟩ := q
          simp only at e1 e2
          subst e1 e2
          (repeat' ((conv => whnf) <;> first | (show idxK _ _ _ _ _; (first | refine idx_of fa i hfa rfl hli ?_ | refine idx_of ra o hra rfl hrlt ?_ | refine idx_of wa i hwa rfl (by omega) ?_)) | (show roK _ _ _; (first | refine ro_iv hfr' (j := i) hli hfi ?_ | refine ro_row0 (fun R w' h => by rw [← hra]; exact rows_base h hr.rows) _ _ (shRows_get hrlt) rfl ?_ | refine ro_iv hwr (j := i) (by omega) hwi ?_)) | (show remK _ _ _; refine rem_is hd0 (by omega) hdd ?_) | (show idxRowK _ _ _ _ _ _; refine idxRow_of d rfl hdn (Nat.le_of_eq (hdl.trans hM.len).symm) ?_) | (show rowK _ _ _ _; refine row_of _ _ (dRows_get hq) rfl ?_) | (show pureK _ _ _; refine nil_yes (ti 33 rfl) rfl ?_) | (show makeK _ _ _ _; (refine make_of n rfl rfl (by show 8 * _ ≤ _; omega) (by omega) ?_)) | (show Wp _ _ _ _ _ _ _; refine Wp.go tabOk rfl ?_) | (show @cmpK _ _ _; (first | refine cmpY ?_ | refine cmpN ?_ | (refine cmp_both ?_ ?_ <;> intro _))) | (show wrapK _ _ _; refine wrapA ?_) | (show leK _ _ _; refine leA ?_) | (show roomK _ _ _; refine roomA ?_) | (show ltK _ _ _; refine ltA ?_) | (show _ ∧ _; refine ⟨?_, ?_⟩) | (show keepK _ _ _ _ _; refine keepA ?_) | refine ap_old ?_))
          all_goals (conv => whnf)
          refine own_group (g := 2) (d := d) (us := []) (l0 := ⟨none, 0⟩) (L := dGrp M) (vs := List.replicate n (.int .i64 0)) (by repeat (first | exact List.mem_cons_self | apply List.mem_cons_of_mem)) (dGrp_get hq) rfl rfl (by rw [oneRows, List.map_replicate]) (by rw [List.length_replicate]; omega) (fun l hlc hlb => ?_)
          rw [List.length_replicate] at hlc
          obtain ⟨b, off, hlb⟩ := hlb
          have hset : ((dRows M).set d [.slice l.base n l.cap])[d]? = some [.slice l.base n l.cap] := List.getElem?_set_self (by rw [hdl]; exact hMd)
          have hgs : ((dGrp M).set d (l, List.replicate n (.int .i64 0)))[d]? = some (l, List.replicate n (.int .i64 0)) := List.getElem?_set_self (by rw [dGrp, List.length_map]; exact hMd)
          (repeat' ((conv => whnf) <;> first | (show rowStoreK _ _ _ _ _; (refine rowStore_of _ (dRows_get hq) (by show 0 + 1 ≤ 1; omega) ?_)) | (show idxRowK _ _ _ _ _ _; (first | refine idxRow_of d rfl hdn (Nat.le_of_eq (hdl.trans hM.len).symm) ?_ | refine idxRow_of d rfl hdn (Nat.le_of_eq (by rw [List.length_set]; exact (hdl.trans hM.len).symm)) ?_)) | (show rowK _ _ _ _; refine row_of _ _ hset rfl ?_) | (show idxK _ _ _ _ _; refine idx_of ⟨b, off, none⟩ sn hlb hsn (by omega) ?_) | (show wrK _ _ _ _ _; (refine wr_group (g := 2) (d := d) (s := sn) (l := l) (vs := List.replicate n (.int .i64 0)) (by repeat (first | exact List.mem_cons_self | apply List.mem_cons_of_mem)) hgs hlb (by rw [List.length_replicate]; omega) (add_frame b off sn) ?_)) | (show Wp _ _ _ _ _ _ _; refine Wp.go tabOk rfl ?_) | (show @cmpK _ _ _; (first | refine cmpY ?_ | refine cmpN ?_ | (refine cmp_both ?_ ?_ <;> intro _))) | (show wrapK _ _ _; refine wrapA ?_) | (show leK _ _ _; refine leA ?_) | (show roomK _ _ _; refine roomA ?_) | (show ltK _ _ _; refine ltA ?_) | (show _ ∧ _; refine ⟨?_, ?_⟩) | (show keepK _ _ _ _ _; refine keepA ?_) | refine own_keep ?_ | refine ap_old ?_))
          all_goals (conv => whnf)
          have eg : dGrp (M.set d (l, (List.replicate n 0).set sn wi)) = ((dGrp M).set d (l, List.replicate n (.int .i64 0))).set d (l, (List.replicate n (Value.int .i64 0)).set sn (.int .i64 wi)) := by rw [dGrp_set, List.set_set, repl_set]
          have er : dRows (M.set d (l, (List.replicate n 0).set sn wi)) = (dRows M).set d [.slice l.base n l.cap] := by rw [dRows_set]; simp [dRow, List.length_replicate]
          have hlenV : ((l, (List.replicate n 0).set sn wi) : DCell).2.length = n := by simp [List.length_replicate]
          refine ⟨(i + 1, M.set d (l, (List.replicate n 0).set sn wi)), [], ⟨hM.set (.inr ⟨⟨b, off, hlb⟩, hlenV, hlc⟩), setD_fits hMf (set_fits (fun y hy => by rw [(List.mem_replicate.1 hy).2]; exact ⟨by decide, by decide⟩) hwf), by rw [hstep]; rw [← step_new hq rfl hw0 hdd, hsn2], hli⟩, by show fv.xs.length - (i + 1) < fv.xs.length - i; omega, rfl, ⟨rfl, rfl, rfl, rfl, rfl, rfl, rfl, rfl, rfl, rfl, rfl, rfl, trivial⟩, ?_, fun _ _ h => h⟩
          show heapInto [] _ [(0, .box [.c fv.val] 33), (1, .rows (dRows (M.set d (l, (List.replicate n 0).set sn wi))) 1 33), (2, .ext (grpO 3 (dGrp (M.set d (l, (List.replicate n 0).set sn wi)))))]
          rw [eg, er]
          exact ⟨(by repeat (first | exact List.mem_cons_self | apply List.mem_cons_of_mem)), (by repeat (first | exact List.mem_cons_self | apply List.mem_cons_of_mem)), (by repeat (first | exact List.mem_cons_self | apply List.mem_cons_of_mem)), trivial⟩
        · obtain ⟨ql, qv⟩ := q
          simp only at e1 e2 e3
          (repeat' ((conv => whnf) <;> first | (show idxK _ _ _ _ _; (first | refine idx_of fa i hfa rfl hli ?_ | refine idx_of ra o hra rfl hrlt ?_ | refine idx_of wa i hwa rfl (by omega) ?_ | refine idx_of ⟨b, off, none⟩ sn e1 hsn (show sn < qv.length by omega) ?_)) | (show roK _ _ _; (first | refine ro_iv hfr' (j := i) hli hfi ?_ | refine ro_row0 (fun R w' h => by rw [← hra]; exact rows_base h hr.rows) _ _ (shRows_get hrlt) rfl ?_ | refine ro_iv hwr (j := i) (by omega) hwi ?_)) | (show remK _ _ _; refine rem_is hd0 (by omega) hdd ?_) | (show idxRowK _ _ _ _ _ _; refine idxRow_of d rfl hdn (Nat.le_of_eq (hdl.trans hM.len).symm) ?_) | (show rowK _ _ _ _; refine row_of _ _ (dRows_get hq) rfl ?_) | (show pureK _ _ _; refine nil_no (ti 33 rfl) rfl e1 ?_) | (show wrK _ _ _ _ _; (refine wr_group (g := 2) (d := d) (s := sn) (l := ql) (vs := qv.map (Value.int .i64)) (by repeat (first | exact List.mem_cons_self | apply List.mem_cons_of_mem)) (dGrp_get hq) e1 (by rw [List.length_map]; omega) (add_frame b off sn) ?_)) | (show Wp _ _ _ _ _ _ _; refine Wp.go tabOk rfl ?_) | (show @cmpK _ _ _; (first | refine cmpY ?_ | refine cmpN ?_ | (refine cmp_both ?_ ?_ <;> intro _))) | (show wrapK _ _ _; refine wrapA ?_) | (show leK _ _ _; refine leA ?_) | (show roomK _ _ _; refine roomA ?_) | (show ltK _ _ _; refine ltA ?_) | (show _ ∧ _; refine ⟨?_, ?_⟩) | (show keepK _ _ _ _ _; refine keepA ?_) | refine own_keep ?_ | refine ap_old ?_))
          all_goals (conv => whnf)
          have eg : dGrp (M.set d (ql, qv.set sn wi)) = (dGrp M).set d (ql, (qv.map (Value.int .i64)).set sn (.int .i64 wi)) := by rw [dGrp_set, List.map_set]
          have er : dRows (M.set d (ql, qv.set sn wi)) = (dRows M).set d [.slice ql.base n ql.cap] := by rw [dRows_set]; simp [dRow, e2]
          have hlenV : ((ql, qv.set sn wi) : DCell).2.length = n := by simp [e2]
          refine ⟨(i + 1, M.set d (ql, qv.set sn wi)), [], ⟨hM.set (.inr ⟨⟨b, off, e1⟩, hlenV, e3⟩), setD_fits hMf (set_fits (hMf _ hqm) hwf), by rw [hstep]; rw [← step_old hq (fun h0 => by have := congrArg List.length h0; simp only [List.length_nil] at this; omega) hw0 hdd, hsn2], hli⟩, by show fv.xs.length - (i + 1) < fv.xs.length - i; omega, rfl, ⟨rfl, rfl, rfl, rfl, rfl, rfl, rfl, rfl, rfl, rfl, rfl, rfl, trivial⟩, ?_, fun _ _ h => h⟩
          show heapInto [] _ [(0, .box [.c fv.val] 33), (1, .rows (dRows (M.set d (ql, qv.set sn wi))) 1 33), (2, .ext (grpO 3 (dGrp (M.set d (ql, qv.set sn wi)))))]
          rw [eg, er, show (dRows M).set d [.slice ql.base n ql.cap] = dRows M from ?_]
          exact ⟨(by repeat (first | exact List.mem_cons_self | apply List.mem_cons_of_mem)), (by repeat (first | exact List.mem_cons_self | apply List.mem_cons_of_mem)), (by repeat (first | exact List.mem_cons_self | apply List.mem_cons_of_mem)), trivial⟩
          rw [← e2, show [Value.slice ql.base qv.length ql.cap] = dRow (ql, qv) from rfl, ← dRows_set, List.set_eq_self hq]
    · (repeat' ((conv => whnf) <;> first | (show Wp _ _ _ _ _ _ _; refine Wp.go tabOk rfl ?_) | (show @cmpK _ _ _; (first | refine cmpY ?_ | refine cmpN ?_ | (refine cmp_both ?_ ?_ <;> intro _))) | (show wrapK _ _ _; refine wrapA ?_) | (show leK _ _ _; refine leA ?_) | (show roomK _ _ _; refine roomA ?_) | (show ltK _ _ _; refine ltA ?_) | (show _ ∧ _; refine ⟨?_, ?_⟩) | (show keepK _ _ _ _ _; refine keepA ?_) | refine own_keep ?_ | refine ap_old ?_))
      all_goals (conv => whnf)
      obtain rfl : i = fv.xs.length := by omega
      exact ⟨(o + 1, M), [], ⟨hM, hMf, by rw [hMs, outerD_succ, hrow, hsv], hlt⟩, by show tv.xs.length - (o + 1) < tv.xs.length - o; omega, rfl, ⟨rfl, rfl, rfl, rfl, rfl, rfl, rfl, trivial⟩, ⟨(by repeat (first | exact List.mem_cons_self | apply List.mem_cons_of_mem)), (by repeat (first | exact List.mem_cons_self | apply List.mem_cons_of_mem)), (by repeat (first | exact List.mem_cons_self | apply List.mem_cons_of_mem)), trivial⟩, fun _ _ h => h⟩
  · (repeat' ((conv => whnf) <;> first | (show Wp _ _ _ _ _ _ _; refine Wp.go tabOk rfl ?_) | (show @cmpK _ _ _; (first | refine cmpY ?_ | refine cmpN ?_ | (refine cmp_both ?_ ?_ <;> intro _))) | (show wrapK _ _ _; refine wrapA ?_) | (show leK _ _ _; refine leA ?_) | (show roomK _ _ _; refine roomA ?_) | (show ltK _ _ _; refine ltA ?_) | (show _ ∧ _; refine ⟨?_, ?_⟩) | (show keepK _ _ _ _ _; refine keepA ?_) | refine own_keep ?_ | refine ap_old ?_))
    all_goals (conv => whnf)
    obtain rfl : o = tv.xs.length := by omega
    have := diag_end (w := w) (B := ⟨w, []⟩) (H := [(0, .box [.c fv.val] 33), (1, .rows (dRows L) 1 33), (2, .ext (grpO 3 (dGrp L)))]) (S := baseA w) (nx := 3) (i := 1) (g := 2) (n := n) (m := n) (fun _ _ h => h) rfl hL hLf (by omega) rfl (by repeat (first | exact List.mem_cons_self | apply List.mem_cons_of_mem)) (by repeat (first | exact List.mem_cons_self | apply List.mem_cons_of_mem))
    rw [hLs] at this
    exact this
end Go.Proofs.Ytdmkdogakbipbaa

/- LR -/
namespace Go.Proofs.Ytdmkdogakbipbaa
open Go.RowKit Go.SX
def up : Nat → Int → Int → Int
  | 0, _, p => p
  | k + 1, size, p => if p < size then up k size (p * 2) else p
def sizeL (xs : List Int) (layout : Int) : Int := if layout = 1 ∧ xs.length = 3 then xs.getD 1 0 * xs.getD 2 0 else entries xs
def pitchL (xs : List Int) (layout : Int) : Int := if layout = 1 ∧ xs.length = 3 then up 7 (xs.getD 1 0 * xs.getD 2 0) 1 else entries xs
def placeL (size pitch : Int) (i : Nat) : Int := (i : Int) / size * pitch + i % size
def rangeL (size pitch : Int) (k : Nat) : List Int := (List.range k).map (placeL size pitch)
def slotsL (xs : List Int) (layout slots : Int) : List Int × Int :=
  if entries xs = 0 ∨ layout < 0 ∨ 1 < layout then ([], 4)
  else if slots ≤ placeL (sizeL xs layout) (pitchL xs layout) ((entries xs).toNat - 1) then ([], 7)
  else (rangeL (sizeL xs layout) (pitchL xs layout) (entries xs).toNat, 0)
theorem rangeL_length (size pitch : Int) (k : Nat) : (rangeL size pitch k).length = k := by simp [rangeL]
theorem rangeL_succ (size pitch : Int) (k : Nat) : rangeL size pitch (k + 1) = rangeL size pitch k ++ [placeL size pitch k] := by simp [rangeL, List.range_succ]
theorem rangeL_getD (size pitch : Int) {k i : Nat} (h : i < k) : (rangeL size pitch k).getD i 0 = placeL size pitch i := by simp [rangeL, List.getD, h]
theorem up_ge : ∀ (k : Nat) (size p : Int), 1 ≤ p → p * 2 ^ k = 128 → size ≤ 64 → size ≤ up k size p ∧ 1 ≤ up k size p ∧ up k size p ≤ 128
  | 0, size, p, h1, h2, h3 => by
    have : p = 128 := by simpa using h2
    simp only [up]; omega
  | k + 1, size, p, h1, h2, h3 => by
    rw [up]
    split
    · exact up_ge k size (p * 2) (by omega) (by rw [Int.mul_assoc, ← Int.pow_succ']; exact h2) h3
    · refine ⟨by omega, by omega, ?_⟩
      have h4 : (1 : Int) ≤ 2 ^ (k + 1) := by have : (0 : Int) < 2 ^ (k + 1) := Int.pow_pos (by decide); omega
      have : p * 1 ≤ p * 2 ^ (k + 1) := Int.mul_le_mul_of_nonneg_left h4 (by omega)
      omega
theorem entries_three {xs : List Int} (h : entries xs ≠ 0) (h3 : xs.length = 3) : entries xs = xs.getD 0 0 * (xs.getD 1 0 * xs.getD 2 0) ∧ 1 ≤ xs.getD 0 0 ∧ 1 ≤ xs.getD 1 0 ∧ 1 ≤ xs.getD 2 0 := by
  match xs, h3 with
  | [a, b, c], _ =>
    have h0 : entries [a, b, c] = entLoop 1 [a, b, c] := by unfold entries; rfl
    rw [h0] at h ⊢
    simp only [entLoop] at h ⊢
    split at h
    · exact absurd rfl h
    split at h
    · exact absurd rfl h
    split at h
    · exact absurd rfl h
    rename_i g1 g2 g3
    rw [if_neg g1, if_neg g2, if_neg g3]
    refine ⟨?_, ?_, ?_, ?_⟩
    · show 1 * a * b * c = a * (b * c)
      rw [Int.one_mul, Int.mul_assoc]
    all_goals simp only [List.getD_cons_zero, List.getD_cons_succ]; omega
/-- so many channels, each of so many entries, so far apart -/
theorem slots_geo {xs : List Int} {layout : Int} (h : entries xs ≠ 0) : ∃ c s p : Nat, entries xs = (c * s : Nat) ∧ sizeL xs layout = s ∧ pitchL xs layout = p ∧ 1 ≤ c ∧ 1 ≤ s ∧ s ≤ p ∧ p ≤ 128 ∧ c * s ≤ 64 ∧ c ≤ 64 ∧ s ≤ 64 ∧ (¬ (layout = 1 ∧ xs.length = 3) → c = 1 ∧ s = p) := by
  have hb := entries_bd xs
  by_cases h1 : layout = 1 ∧ xs.length = 3
  · obtain ⟨e, h2, h3, h4⟩ := entries_three h h1.2
    obtain ⟨a, ha⟩ := Int.eq_ofNat_of_zero_le (show 0 ≤ xs.getD 0 0 by omega)
    obtain ⟨b, hb'⟩ := Int.eq_ofNat_of_zero_le (show 0 ≤ xs.getD 1 0 by omega)
    obtain ⟨c, hc⟩ := Int.eq_ofNat_of_zero_le (show 0 ≤ xs.getD 2 0 by omega)
    rw [sizeL, pitchL, if_pos h1, if_pos h1]
    rw [ha, hb', hc] at e
    rw [ha] at h2
    rw [hb'] at h3 ⊢
    rw [hc] at h4 ⊢
    have e2 : (b : Int) * (c : Int) = ((b * c : Nat) : Int) := by simp
    have e3 : (a : Int) * ((b : Int) * (c : Int)) = ((a * (b * c) : Nat) : Int) := by simp
    rw [e3] at e
    rw [e2]
    have hbc : 1 ≤ b * c := Nat.mul_pos (by omega) (by omega)
    have hle : a * (b * c) ≤ 64 := by omega
    have hsl : b * c ≤ a * (b * c) := Nat.le_mul_of_pos_left _ (by omega)
    have hal : a ≤ a * (b * c) := Nat.le_mul_of_pos_right _ hbc
    obtain ⟨u1, u2, u3⟩ := up_ge 7 ((b * c : Nat) : Int) 1 (by decide) (by decide) (by omega)
    obtain ⟨p, hp⟩ := Int.eq_ofNat_of_zero_le (show 0 ≤ up 7 ((b * c : Nat) : Int) 1 by omega)
    exact ⟨a, b * c, p, e, rfl, hp, by omega, hbc, by omega, by omega, hle, by omega, by omega, fun g => absurd h1 g⟩
  · obtain ⟨n, hn⟩ := Int.eq_ofNat_of_zero_le hb.1
    rw [sizeL, pitchL, if_neg h1, if_neg h1, hn]
    rw [hn] at h hb
    exact ⟨1, n, n, by simp, rfl, rfl, by decide, by omega, by omega, by omega, by omega, by omega, by omega, fun _ => ⟨rfl, rfl⟩⟩
theorem placeL_at {c i s p : Nat} (h : i < s) : placeL s p (c * s + i) = (c * p + i : Nat) := by
  have hs : 0 < s := by omega
  have e1 : ((c * s + i : Nat) : Int) / (s : Int) = (c : Int) := by
    rw [← Int.natCast_ediv, Nat.add_comm, Nat.add_mul_div_right _ _ hs, Nat.div_eq_of_lt h, Nat.zero_add]
  have e2 : ((c * s + i : Nat) : Int) % (s : Int) = (i : Int) := by
    rw [← Int.natCast_emod, Nat.add_comm, Nat.add_mul_mod_self_right, Nat.mod_eq_of_lt h]
  rw [placeL, e1, e2]; simp
theorem placeL_nat {s p : Nat} (i : Nat) : placeL s p i = ((i / s * p + i % s : Nat) : Int) := by simp [placeL]
theorem placeL_bd {s p i n : Nat} (hs : 1 ≤ s) (hp : s ≤ p) (hi : i < n) (hn : n ≤ 64) (hp2 : p ≤ 128) : 0 ≤ placeL s p i ∧ placeL s p i ≤ 10000 := by
  rw [placeL_nat]
  have h1 : i / s ≤ i := Nat.div_le_self _ _
  have h2 := Nat.mod_lt i (show s > 0 by omega)
  have h3 : i / s * p ≤ 64 * 128 := Nat.mul_le_mul (by omega) hp2
  have h4 := Nat.mod_le i s
  omega
end Go.Proofs.Ytdmkdogakbipbaa

/- LS -/
namespace Go.Proofs.Ytdmkdogakbipbaa
open Go.RowKit Go.SX
def SlotsPost (w : World) (r : List Int × Int) : Ending → World → Prop := fun e w' => ∃ x : IntsV, (x.xs = r.1 ∧ x.sane) ∧ e = .returned (.tuple #[x.val, .int .i64 r.2]) ∧ Ext w w' ∧ (intsA x).holds (fun b => w.heap.size ≤ b ∧ b < w'.heap.size) w'
theorem slots_fail {w : World} {B : Base} {H : Heap} {S : Asn} {nx : Nat} {er : Int} {r : List Int × Int} (hb : ∀ R w', S.holds R w' → (baseA B.w0).holds R w') (hw0 : B.w0 = w) (hr : r = ([], er)) : finK B (.tup [.c (.slice none 0 0), .c (.int .i64 er)]) H S nx (SlotsPost w r) := by
  subst hw0 hr
  refine fin_of fun ρ w' hw => ⟨⟨none, 0, []⟩, ⟨rfl, ⟨fun _ h => (by cases h), Nat.le_refl _, by decide⟩⟩, rfl, ext_of_abs hw hb, ⟨fun _ h => (by cases h), .inl rfl⟩⟩
theorem slots_end {w : World} {B : Base} {H : Heap} {S : Asn} {nx i m : Nat} {l : List Int} {r : List Int × Int} (hb : ∀ R w', S.holds R w' → (baseA B.w0).holds R w') (hw0 : B.w0 = w) (hm : m = l.length) (hf : ∀ x ∈ l, i64 x) (hl : l.length ≤ 1000000) (hi : (i, Ent.rows (ints l) 1 3) ∈ H) (hr : r = (l, 0)) :
    finK B (.tup [.os i m, .c (.int .i64 0)]) H S nx (SlotsPost w r) := by
  subst hw0 hm hr
  refine fin_of fun ρ w' hw => ?_
  have hn := new_of_abs hw hb hi
  rw [ints_length] at hn
  obtain ⟨u, e, h1, h2, h3⟩ := newInts hn hf hl
  refine ⟨u, ⟨h1, h2⟩, ?_, ext_of_abs hw hb, h3⟩
  have : (SV.tup [.os i l.length, .c (.int .i64 0)]).rf ρ = .tuple #[(SV.os i l.length).rf ρ, .int .i64 0] := rfl
  rw [this, e]
theorem wrap_isS {z : Int} (y : Int) {K : Int → Prop} (h : z = y) (h1 : -9223372036854775808 ≤ y) (h2 : y ≤ 9223372036854775807) (hk : K y) : wrapK .i64 z K := by
  subst h; exact wrap_i64 h1 h2 hk
theorem div_isS {x y q : Int} {K : Int → Prop} (e : x / y = q) (h0 : 0 ≤ x) (h1 : x ≤ 9223372036854775807) (hy : 0 < y) (h : K q) : divK .i64 x y K := div_pos rfl h0 h1 hy (by rw [e]; exact h)
theorem ints_snocS (xs : List Int) (x : Int) {m i : Nat} (hm : m = xs.length) {T : TypeId} {H : Heap} : (i, Ent.rows (ints (xs ++ [x])) 1 T) ∈ (i, Ent.rows (List.take m (ints xs) ++ [[.int .i64 x]]) 1 T) :: H := by
  subst hm
  rw [show ints (xs ++ [x]) = List.take xs.length (ints xs) ++ [[.int .i64 x]] by rw [List.take_of_length_le (by rw [ints_length]; exact Nat.le_refl _)]; simp [ints]]
  exact List.mem_cons_self
theorem range_fits {s p n : Nat} (hs : 1 ≤ s) (hp : s ≤ p) (hn : n ≤ 64) (hp2 : p ≤ 128) : ∀ x ∈ rangeL s p n, i64 x := fun x hx => by
  obtain ⟨i, hi, rfl⟩ := List.mem_map.1 hx
  have := placeL_bd hs hp (List.mem_range.1 hi) hn hp2
  exact ⟨by omega, by omega⟩
theorem up_stop {k : Nat} {size q : Int} (h : ¬ q < size) : up k size q = q := by cases k <;> simp [up, h]
theorem up_step {k : Nat} {size q : Int} (h : q < size) (h64 : size ≤ 64) (e : q * 2 ^ k = 128) : ∃ k', k = k' + 1 ∧ up k size q = up k' size (q * 2) ∧ q * 2 * 2 ^ k' = 128 := by
  cases k with
  | zero => simp at e; omega
  | succ k => exact ⟨k, rfl, by simp [up, h], by rw [Int.mul_assoc, ← Int.pow_succ']; exact e⟩
set_option maxHeartbeats 2000000 in
theorem slots_any (w : World) (u : IntsV) (hx : RowsI w u.base 1 (ints u.xs)) (layout slots : Int) : Calls Try.prog 28 #[u.val, .int .i64 layout, .int .i64 slots] w (SlotsPost w (slotsL u.xs layout slots)) := by
  by_cases hA : entries u.xs = 0 ∨ layout < 0 ∨ 1 < layout
  · refine calls_of tab tabOk Try.func28 rfl rfl rfl [] (fun _ => ⟨none, 0⟩) [.c u.val, .c (.int .i64 layout), .c (.int .i64 slots)] [] (baseA w) 0 rfl rfl (by show 3 ≤ _; decide) (abs_base w) ?_
    (repeat' ((conv => whnf) <;> first | (show callK _ 59 _ _ _ _ _; refine call_pure (f := 59) Try.call59 (.int .i64 (entries u.xs)) (fun ρ w' hw => entries_any w' u.base u.cap u.xs (holds_of_abs hw fun R h => rows_base h hx)) ?_) | (show drawK _ _ _ _ _ _ _ _; refine draw_quiet tabOk mixed (by kernel_rfl) ?_) | (show Wp _ _ _ _ _ _ _; refine Wp.go tabOk rfl ?_) | (show @cmpK _ _ _; (first | refine cmpY ?_ | refine cmpN ?_ | (refine cmp_both ?_ ?_ <;> intro _))) | (show wrapK _ _ _; refine wrapA ?_) | (show leK _ _ _; refine leA ?_) | (show roomK _ _ _; refine roomA ?_) | (show ltK _ _ _; refine ltA ?_) | (show _ ∧ _; refine ⟨?_, ?_⟩) | (show keepK _ _ _ _ _; refine keepA ?_) | refine own_keep ?_ | refine ap_old ?_))
    all_goals (conv => whnf)
    all_goals first | (exfalso; omega) | skip
    all_goals exact slots_fail (fun _ _ h => h) rfl (by rw [slotsL, if_pos hA])
  · obtain ⟨c, s, p, hcs, hs, hp, hc1, hs1, hsp, hp2, hn64, hc64, hs64, hel⟩ := slots_geo (xs := u.xs) (layout := layout) (by omega)
    have hdef : slotsL u.xs layout slots = if slots ≤ placeL s p (c * s - 1) then ([], 7) else (rangeL s p (c * s), 0) := by
      rw [slotsL, if_neg hA, hs, hp, hcs, Int.toNat_natCast]
    obtain ⟨n, hn⟩ : ∃ n, c * s = n := ⟨_, rfl⟩
    have hn1 : 1 ≤ n := by rw [← hn]; exact Nat.mul_pos hc1 hs1
    rw [hn] at hdef hcs hn64
    have hq : ((n : Nat) : Int) / (s : Int) = c := by rw [← hn, ← Int.natCast_ediv, Nat.mul_div_cancel _ (by omega)]
    rw [hdef]
    have hent : ∀ {ρ : Nat → SX.Loc} {w' : World} {nx : Nat} {H : Heap}, Abs ⟨w, []⟩ ρ nx H (baseA w) w' → Calls Try.prog 59 #[u.val] w' fun e w2 => e = .returned (.int .i64 (n : Nat)) ∧ Ext w' w2 := fun hw => by
      have := entries_any _ u.base u.cap u.xs (holds_of_abs hw fun R h => rows_base h hx)
      rw [hcs] at this; exact this
    by_cases h1 : layout = 1 ∧ u.xs.length = 3
    · obtain ⟨ua, hua⟩ : ∃ a, u.base = some a := base_some (j := 0) hx (by rw [ints_length]; omega)
      have hur : ∀ (R : Nat → Prop) w', (baseA w).holds R w' → RowsI w' (some ua) 1 (ints u.xs) := fun R w' h => by rw [← hua]; exact rows_base h hx
      rw [sizeL, if_pos h1] at hs
      rw [pitchL, if_pos h1, hs] at hp
      refine calls_of tab tabOk Try.func28 rfl rfl rfl [] (fun _ => ⟨none, 0⟩) [.c u.val, .c (.int .i64 layout), .c (.int .i64 slots)] [] (baseA w) 0 rfl rfl (by show 3 ≤ _; decide) (abs_base w) ?_
      (repeat' ((conv => whnf) <;> first | (show callK _ 59 _ _ _ _ _; refine call_pure (f := 59) Try.call59 (.int .i64 (n : Nat)) (fun ρ w' hw => hent hw) ?_) | (show idxK _ _ _ _ _; (first | refine idx_of ua 1 hua rfl (by omega) ?_ | refine idx_of ua 2 hua rfl (by omega) ?_)) | (show roK _ _ _; (first | refine ro_int hur (j := 1) (by omega) ?_ | refine ro_int hur (j := 2) (by omega) ?_)) | (show wrapK _ _ _; refine wrap_isS (s : Int) hs (by omega) (by omega) ?_) | (show drawK _ _ _ _ _ _ _ _; refine draw_quiet tabOk mixed (by kernel_rfl) ?_) | (show Wp _ _ _ _ _ _ _; refine Wp.go tabOk rfl ?_) | (show @cmpK _ _ _; (first | refine cmpY ?_ | refine cmpN ?_ | (refine cmp_both ?_ ?_ <;> intro _))) | (show wrapK _ _ _; refine wrapA ?_) | (show leK _ _ _; refine leA ?_) | (show roomK _ _ _; refine roomA ?_) | (show ltK _ _ _; refine ltA ?_) | (show _ ∧ _; refine ⟨?_, ?_⟩) | (show keepK _ _ _ _ _; refine keepA ?_) | refine own_keep ?_ | refine ap_old ?_))
      all_goals (conv => whnf)
      refine Wp.loop (σ := Nat × Nat) 0 (fun ⟨q, k⟩ => [(2, .c (.int .i64 slots)), (8, .c (.int .i64 (n : Nat))), (9, .c (.int .i64 (s : Nat))), (10, .c (.int .i64 q))]) (fun _ => []) (fun _ => baseA w)
        (fun ⟨q, k⟩ => (q : Int) * 2 ^ k = 128 ∧ 1 ≤ q ∧ up k s q = p) (fun x => x.2) (1, 7) [] (by decide) (fun s => ⟨rfl, rfl⟩) ⟨by decide, by decide, hp⟩ ⟨rfl, ⟨rfl, rfl, rfl, rfl, trivial⟩, trivial, fun _ _ h => h⟩ ?_
      rintro ⟨q, k⟩ ⟨hq1, hq2, hq3⟩
      by_cases hqs : (q : Int) < s
      · obtain ⟨k', rfl, hk2, hk3⟩ := up_step hqs (by omega) hq1
        (repeat' ((conv => whnf) <;> first | (show wrapK _ _ _; refine wrap_isS ((q * 2 : Nat) : Int) (by simp) (by omega) (by omega) ?_) | (show drawK _ _ _ _ _ _ _ _; refine draw_quiet tabOk mixed (by kernel_rfl) ?_) | (show Wp _ _ _ _ _ _ _; refine Wp.go tabOk rfl ?_) | (show @cmpK _ _ _; (first | refine cmpY ?_ | refine cmpN ?_ | (refine cmp_both ?_ ?_ <;> intro _))) | (show wrapK _ _ _; refine wrapA ?_) | (show leK _ _ _; refine leA ?_) | (show roomK _ _ _; refine roomA ?_) | (show ltK _ _ _; refine ltA ?_) | (show _ ∧ _; refine ⟨?_, ?_⟩) | (show keepK _ _ _ _ _; refine keepA ?_) | refine own_keep ?_ | refine ap_old ?_))
        all_goals (conv => whnf)
        exact ⟨(q * 2, k'), [], ⟨by simpa using hk3, by show 1 ≤ q * 2; omega, by rw [← hq3, hk2]; simp⟩, Nat.lt_succ_self _, rfl, ⟨rfl, rfl, rfl, rfl, trivial⟩, trivial, fun _ _ h => h⟩
      · rw [up_stop hqs] at hq3
        have hqp : p = q := by omega
        subst hqp
        (repeat' ((conv => whnf) <;> first | (show makeK _ _ _ _; (refine make_cap 0 n rfl rfl (Nat.zero_le _) (by show 8 * _ ≤ _; omega) (by omega) ?_)) | (show divK _ _ _ _; refine div_isS hq (by omega) (by omega) (by omega) ?_) | (show drawK _ _ _ _ _ _ _ _; refine draw_quiet tabOk mixed (by kernel_rfl) ?_) | (show Wp _ _ _ _ _ _ _; refine Wp.go tabOk rfl ?_) | (show @cmpK _ _ _; (first | refine cmpY ?_ | refine cmpN ?_ | (refine cmp_both ?_ ?_ <;> intro _))) | (show wrapK _ _ _; refine wrapA ?_) | (show leK _ _ _; refine leA ?_) | (show roomK _ _ _; refine roomA ?_) | (show ltK _ _ _; refine ltA ?_) | (show _ ∧ _; refine ⟨?_, ?_⟩) | (show keepK _ _ _ _ _; refine keepA ?_) | refine own_keep ?_ | refine ap_old ?_))
        all_goals (conv => whnf)
        refine Wp.loop (σ := Nat × Nat) 2 (fun x => [(2, .c (.int .i64 slots)), (8, .c (.int .i64 (n : Nat))), (9, .c (.int .i64 (s : Nat))), (10, .c (.int .i64 (p : Nat))), (11, .os 1 x.2), (51, .c (.int .i64 (c : Nat))), (52, .c (.int .i64 x.1))]) (fun x => [(1, .rows (ints (rangeL s p x.2)) 1 3)]) (fun _ => baseA w)
          (fun x => x.1 ≤ c ∧ x.2 = x.1 * s) (fun x => c - x.1) (0, 0) [(1, some 0)] (by decide) (fun _ => ⟨rfl, rfl⟩) ⟨Nat.zero_le _, (Nat.zero_mul s).symm⟩ ⟨rfl, ⟨rfl, rfl, rfl, rfl, rfl, rfl, rfl, trivial⟩, ⟨List.mem_cons_self, trivial⟩, fun _ _ h => h⟩ ?_
        rintro ⟨cc, m⟩ ⟨hcc, hm⟩
        dsimp only at hcc hm
        by_cases hlt : cc < c
        · (repeat' ((conv => whnf) <;> first | (show drawK _ _ _ _ _ _ _ _; refine draw_quiet tabOk mixed (by kernel_rfl) ?_) | (show Wp _ _ _ _ _ _ _; refine Wp.go tabOk rfl ?_) | (show @cmpK _ _ _; (first | refine cmpY ?_ | refine cmpN ?_ | (refine cmp_both ?_ ?_ <;> intro _))) | (show wrapK _ _ _; refine wrapA ?_) | (show leK _ _ _; refine leA ?_) | (show roomK _ _ _; refine roomA ?_) | (show ltK _ _ _; refine ltA ?_) | (show _ ∧ _; refine ⟨?_, ?_⟩) | (show keepK _ _ _ _ _; refine keepA ?_) | refine own_keep ?_ | refine ap_old ?_))
          all_goals (conv => whnf)
          have hcp : cc * p ≤ 64 * 128 := Nat.mul_le_mul (by omega) hp2
          have hms : cc * s + s ≤ c * s := by rw [← Nat.succ_mul]; exact Nat.mul_le_mul_right s hlt
          refine Wp.loop (σ := Nat × Nat) 3 (fun x => [(2, .c (.int .i64 slots)), (8, .c (.int .i64 (n : Nat))), (9, .c (.int .i64 (s : Nat))), (10, .c (.int .i64 (p : Nat))), (11, .os 2 x.2), (51, .c (.int .i64 (c : Nat))), (52, .c (.int .i64 cc)), (12, .c (.int .i64 cc)), (55, .c (.int .i64 (s : Nat))), (56, .c (.int .i64 x.1))]) (fun x => [(2, .rows (ints (rangeL s p x.2)) 1 3)]) (fun _ => baseA w)
            (fun x => x.1 ≤ s ∧ x.2 = cc * s + x.1) (fun x => s - x.1) (0, m) [(2, some 1)] (by decide) (fun _ => ⟨rfl, rfl⟩) ⟨Nat.zero_le _, hm⟩ ⟨rfl, ⟨rfl, rfl, rfl, rfl, rfl, rfl, rfl, rfl, rfl, rfl, trivial⟩, ⟨List.mem_cons_self, trivial⟩, fun _ _ h => h⟩ ?_
          rintro ⟨i, k⟩ ⟨hi, hk⟩
          dsimp only at hi hk
          by_cases hli : i < s
          · have hpl : (((cc * p : Nat) : Int) + (i : Int)) = placeL s p k := by rw [hk, placeL_at hli]; simp
            have hrl := rangeL_length s p k
            (repeat' ((conv => whnf) <;> first | (show wrapK _ _ _; (first | refine wrap_isS ((cc * p : Nat) : Int) (Int.natCast_mul cc p).symm (by omega) (by omega) ?_ | refine wrap_isS (placeL s p k) hpl (by omega) (by omega) ?_ | refine wrap_i64 (by omega) (by omega) ?_)) | (show leK _ _ _; refine le_of (Nat.le_of_eq (by rw [ints_length, rangeL_length])) ?_) | (show roomK _ _ _; (refine room_of (by show (k + 1) * 8 ≤ 140737488355328; omega) ?_)) | (show drawK _ _ _ _ _ _ _ _; refine draw_quiet tabOk mixed (by kernel_rfl) ?_) | (show Wp _ _ _ _ _ _ _; refine Wp.go tabOk rfl ?_) | (show @cmpK _ _ _; (first | refine cmpY ?_ | refine cmpN ?_ | (refine cmp_both ?_ ?_ <;> intro _))) | (show wrapK _ _ _; refine wrapA ?_) | (show leK _ _ _; refine leA ?_) | (show roomK _ _ _; refine roomA ?_) | (show ltK _ _ _; refine ltA ?_) | (show _ ∧ _; refine ⟨?_, ?_⟩) | (show keepK _ _ _ _ _; refine keepA ?_) | refine own_keep ?_ | refine ap_old ?_))
            all_goals (conv => whnf)
            exact ⟨(i + 1, k + 1), [(2, some 4)], ⟨hli, by show k + 1 = cc * s + (i + 1); omega⟩, by show s - (i + 1) < s - i; omega, rfl, ⟨rfl, rfl, rfl, rfl, rfl, rfl, rfl, rfl, rfl, rfl, trivial⟩, ⟨by show (4, Ent.rows (ints (rangeL s p (k + 1))) 1 3) ∈ _; rw [rangeL_succ]; exact ints_snocS _ _ (rangeL_length s p k).symm, trivial⟩, fun _ _ h => h⟩
          · (repeat' ((conv => whnf) <;> first | (show drawK _ _ _ _ _ _ _ _; refine draw_quiet tabOk mixed (by kernel_rfl) ?_) | (show Wp _ _ _ _ _ _ _; refine Wp.go tabOk rfl ?_) | (show @cmpK _ _ _; (first | refine cmpY ?_ | refine cmpN ?_ | (refine cmp_both ?_ ?_ <;> intro _))) | (show wrapK _ _ _; refine wrapA ?_) | (show leK _ _ _; refine leA ?_) | (show roomK _ _ _; refine roomA ?_) | (show ltK _ _ _; refine ltA ?_) | (show _ ∧ _; refine ⟨?_, ?_⟩) | (show keepK _ _ _ _ _; refine keepA ?_) | refine own_keep ?_ | refine ap_old ?_))
            all_goals (conv => whnf)
            exact ⟨(cc + 1, k), [(1, some 2)], ⟨hlt, by show k = (cc + 1) * s; rw [Nat.succ_mul]; omega⟩, by show c - (cc + 1) < c - cc; omega, rfl, ⟨rfl, rfl, rfl, rfl, rfl, rfl, rfl, trivial⟩, ⟨List.mem_cons_self, trivial⟩, fun _ _ h => h⟩
        · have hcc2 : cc = c := by omega
          rw [hcc2, hn] at hm
          have hpb := placeL_bd (i := n - 1) (n := n) hs1 hsp (by omega) hn64 hp2
          have hlast := rangeL_getD s p (k := n) (i := n - 1) (by omega)
          have hll := rangeL_length s p n
          have hm' := hm.symm
          subst hm'
          (repeat' ((conv => whnf) <;> first | (show idxRowK _ _ _ _ _ _; refine idxRow_of (n - 1) (by omega) (by omega) (Nat.le_of_eq (by rw [ints_length, rangeL_length])) ?_) | (show rowK _ _ _ _; refine ro_own (xs := rangeL s p n) (j := n - 1) (by omega) ?_) | (show drawK _ _ _ _ _ _ _ _; refine draw_quiet tabOk mixed (by kernel_rfl) ?_) | (show Wp _ _ _ _ _ _ _; refine Wp.go tabOk rfl ?_) | (show @cmpK _ _ _; (first | refine cmpY ?_ | refine cmpN ?_ | (refine cmp_both ?_ ?_ <;> intro _))) | (show wrapK _ _ _; refine wrapA ?_) | (show leK _ _ _; refine leA ?_) | (show roomK _ _ _; refine roomA ?_) | (show ltK _ _ _; refine ltA ?_) | (show _ ∧ _; refine ⟨?_, ?_⟩) | (show keepK _ _ _ _ _; refine keepA ?_) | refine own_keep ?_ | refine ap_old ?_))
          all_goals (conv => whnf)
          · exact slots_fail (fun _ _ h => h) rfl (if_pos (by omega))
          · exact slots_end (i := 1) (fun _ _ h => h) rfl hll.symm (range_fits hs1 hsp hn64 hp2) (by omega) (by repeat (first | exact List.mem_cons_self | apply List.mem_cons_of_mem)) (if_neg (by omega))
    · obtain ⟨hc, hsp'⟩ := hel h1
      have hns : n = s := by rw [← hn, hc, Nat.one_mul]
      subst hsp'
      subst hns
      refine calls_of tab tabOk Try.func28 rfl rfl rfl [] (fun _ => ⟨none, 0⟩) [.c u.val, .c (.int .i64 layout), .c (.int .i64 slots)] [] (baseA w) 0 rfl rfl (by show 3 ≤ _; decide) (abs_base w) ?_
      (repeat' ((conv => whnf) <;> first | (show callK _ 59 _ _ _ _ _; refine call_pure (f := 59) Try.call59 (.int .i64 (n : Nat)) (fun ρ w' hw => hent hw) ?_) | (show makeK _ _ _ _; (refine make_cap 0 n rfl rfl (Nat.zero_le _) (by show 8 * _ ≤ _; omega) (by omega) ?_)) | (show divK _ _ _ _; refine div_isS (q := (c : Int)) hq (by omega) (by omega) (by omega) ?_) | (show drawK _ _ _ _ _ _ _ _; refine draw_quiet tabOk mixed (by kernel_rfl) ?_) | (show Wp _ _ _ _ _ _ _; refine Wp.go tabOk rfl ?_) | (show @cmpK _ _ _; (first | refine cmpY ?_ | refine cmpN ?_ | (refine cmp_both ?_ ?_ <;> intro _))) | (show wrapK _ _ _; refine wrapA ?_) | (show leK _ _ _; refine leA ?_) | (show roomK _ _ _; refine roomA ?_) | (show ltK _ _ _; refine ltA ?_) | (show _ ∧ _; refine ⟨?_, ?_⟩) | (show keepK _ _ _ _ _; refine keepA ?_) | refine own_keep ?_ | refine ap_old ?_))
      all_goals (conv => whnf)
      · skip
        refine Wp.loop (σ := Nat × Nat) 2 (fun x => [(2, .c (.int .i64 slots)), (8, .c (.int .i64 (n : Nat))), (9, .c (.int .i64 (n : Nat))), (10, .c (.int .i64 (n : Nat))), (11, .os 1 x.2), (51, .c (.int .i64 (c : Nat))), (52, .c (.int .i64 x.1))]) (fun x => [(1, .rows (ints (rangeL n n x.2)) 1 3)]) (fun _ => baseA w)
          (fun x => x.1 ≤ c ∧ x.2 = x.1 * n) (fun x => c - x.1) (0, 0) [(1, some 0)] (by decide) (fun _ => ⟨rfl, rfl⟩) ⟨Nat.zero_le _, (Nat.zero_mul n).symm⟩ ⟨rfl, ⟨rfl, rfl, rfl, rfl, rfl, rfl, rfl, trivial⟩, ⟨List.mem_cons_self, trivial⟩, fun _ _ h => h⟩ ?_
        rintro ⟨cc, m⟩ ⟨hcc, hm⟩
        dsimp only at hcc hm
        by_cases hlt : cc < c
        · (repeat' ((conv => whnf) <;> first | (show drawK _ _ _ _ _ _ _ _; refine draw_quiet tabOk mixed (by kernel_rfl) ?_) | (show Wp _ _ _ _ _ _ _; refine Wp.go tabOk rfl ?_) | (show @cmpK _ _ _; (first | refine cmpY ?_ | refine cmpN ?_ | (refine cmp_both ?_ ?_ <;> intro _))) | (show wrapK _ _ _; refine wrapA ?_) | (show leK _ _ _; refine leA ?_) | (show roomK _ _ _; refine roomA ?_) | (show ltK _ _ _; refine ltA ?_) | (show _ ∧ _; refine ⟨?_, ?_⟩) | (show keepK _ _ _ _ _; refine keepA ?_) | refine own_keep ?_ | refine ap_old ?_))
          all_goals (conv => whnf)
          have hcp : cc * n ≤ 64 * 128 := Nat.mul_le_mul (by omega) hp2
          have hms : cc * n + n ≤ c * n := by rw [← Nat.succ_mul]; exact Nat.mul_le_mul_right n hlt
          refine Wp.loop (σ := Nat × Nat) 3 (fun x => [(2, .c (.int .i64 slots)), (8, .c (.int .i64 (n : Nat))), (9, .c (.int .i64 (n : Nat))), (10, .c (.int .i64 (n : Nat))), (11, .os 2 x.2), (51, .c (.int .i64 (c : Nat))), (52, .c (.int .i64 cc)), (12, .c (.int .i64 cc)), (55, .c (.int .i64 (n : Nat))), (56, .c (.int .i64 x.1))]) (fun x => [(2, .rows (ints (rangeL n n x.2)) 1 3)]) (fun _ => baseA w)
            (fun x => x.1 ≤ n ∧ x.2 = cc * n + x.1) (fun x => n - x.1) (0, m) [(2, some 1)] (by decide) (fun _ => ⟨rfl, rfl⟩) ⟨Nat.zero_le _, hm⟩ ⟨rfl, ⟨rfl, rfl, rfl, rfl, rfl, rfl, rfl, rfl, rfl, rfl, trivial⟩, ⟨List.mem_cons_self, trivial⟩, fun _ _ h => h⟩ ?_
          rintro ⟨i, k⟩ ⟨hi, hk⟩
          dsimp only at hi hk
          by_cases hli : i < n
          · have hpl : (((cc * n : Nat) : Int) + (i : Int)) = placeL n n k := by rw [hk, placeL_at hli]; simp
            have hrl := rangeL_length n n k
            (repeat' ((conv => whnf) <;> first | (show wrapK _ _ _; (first | refine wrap_isS ((cc * n : Nat) : Int) (Int.natCast_mul cc n).symm (by omega) (by omega) ?_ | refine wrap_isS (placeL n n k) hpl (by omega) (by omega) ?_ | refine wrap_i64 (by omega) (by omega) ?_)) | (show leK _ _ _; refine le_of (Nat.le_of_eq (by rw [ints_length, rangeL_length])) ?_) | (show roomK _ _ _; (refine room_of (by show (k + 1) * 8 ≤ 140737488355328; omega) ?_)) | (show drawK _ _ _ _ _ _ _ _; refine draw_quiet tabOk mixed (by kernel_rfl) ?_) | (show Wp _ _ _ _ _ _ _; refine Wp.go tabOk rfl ?_) | (show @cmpK _ _ _; (first | refine cmpY ?_ | refine cmpN ?_ | (refine cmp_both ?_ ?_ <;> intro _))) | (show wrapK _ _ _; refine wrapA ?_) | (show leK _ _ _; refine leA ?_) | (show roomK _ _ _; refine roomA ?_) | (show ltK _ _ _; refine ltA ?_) | (show _ ∧ _; refine ⟨?_, ?_⟩) | (show keepK _ _ _ _ _; refine keepA ?_) | refine own_keep ?_ | refine ap_old ?_))
            all_goals (conv => whnf)
            exact ⟨(i + 1, k + 1), [(2, some 4)], ⟨hli, by show k + 1 = cc * n + (i + 1); omega⟩, by show n - (i + 1) < n - i; omega, rfl, ⟨rfl, rfl, rfl, rfl, rfl, rfl, rfl, rfl, rfl, rfl, trivial⟩, ⟨by show (4, Ent.rows (ints (rangeL n n (k + 1))) 1 3) ∈ _; rw [rangeL_succ]; exact ints_snocS _ _ (rangeL_length n n k).symm, trivial⟩, fun _ _ h => h⟩
          · (repeat' ((conv => whnf) <;> first | (show drawK _ _ _ _ _ _ _ _; refine draw_quiet tabOk mixed (by kernel_rfl) ?_) | (show Wp _ _ _ _ _ _ _; refine Wp.go tabOk rfl ?_) | (show @cmpK _ _ _; (first | refine cmpY ?_ | refine cmpN ?_ | (refine cmp_both ?_ ?_ <;> intro _))) | (show wrapK _ _ _; refine wrapA ?_) | (show leK _ _ _; refine leA ?_) | (show roomK _ _ _; refine roomA ?_) | (show ltK _ _ _; refine ltA ?_) | (show _ ∧ _; refine ⟨?_, ?_⟩) | (show keepK _ _ _ _ _; refine keepA ?_) | refine own_keep ?_ | refine ap_old ?_))
            all_goals (conv => whnf)
            exact ⟨(cc + 1, k), [(1, some 2)], ⟨hlt, by show k = (cc + 1) * n; rw [Nat.succ_mul]; omega⟩, by show c - (cc + 1) < c - cc; omega, rfl, ⟨rfl, rfl, rfl, rfl, rfl, rfl, rfl, trivial⟩, ⟨List.mem_cons_self, trivial⟩, fun _ _ h => h⟩
        · have hcc2 : cc = c := by omega
          rw [hcc2, hn] at hm
          have hpb := placeL_bd (i := n - 1) (n := n) hs1 hsp (by omega) hn64 hp2
          have hlast := rangeL_getD n n (k := n) (i := n - 1) (by omega)
          have hll := rangeL_length n n n
          have hm' := hm.symm
          subst hm'
          (repeat' ((conv => whnf) <;> first | (show idxRowK _ _ _ _ _ _; refine idxRow_of (n - 1) (by omega) (by omega) (Nat.le_of_eq (by rw [ints_length, rangeL_length])) ?_) | (show rowK _ _ _ _; refine ro_own (xs := rangeL n n n) (j := n - 1) (by omega) ?_) | (show drawK _ _ _ _ _ _ _ _; refine draw_quiet tabOk mixed (by kernel_rfl) ?_) | (show Wp _ _ _ _ _ _ _; refine Wp.go tabOk rfl ?_) | (show @cmpK _ _ _; (first | refine cmpY ?_ | refine cmpN ?_ | (refine cmp_both ?_ ?_ <;> intro _))) | (show wrapK _ _ _; refine wrapA ?_) | (show leK _ _ _; refine leA ?_) | (show roomK _ _ _; refine roomA ?_) | (show ltK _ _ _; refine ltA ?_) | (show _ ∧ _; refine ⟨?_, ?_⟩) | (show keepK _ _ _ _ _; refine keepA ?_) | refine own_keep ?_ | refine ap_old ?_))
          all_goals (conv => whnf)
          · exact slots_fail (fun _ _ h => h) rfl (if_pos (by omega))
          · exact slots_end (i := 1) (fun _ _ h => h) rfl hll.symm (range_fits hs1 hsp hn64 hp2) (by omega) (by repeat (first | exact List.mem_cons_self | apply List.mem_cons_of_mem)) (if_neg (by omega))
      · skip
        refine Wp.loop (σ := Nat × Nat) 2 (fun x => [(2, .c (.int .i64 slots)), (8, .c (.int .i64 (n : Nat))), (9, .c (.int .i64 (n : Nat))), (10, .c (.int .i64 (n : Nat))), (11, .os 1 x.2), (51, .c (.int .i64 (c : Nat))), (52, .c (.int .i64 x.1))]) (fun x => [(1, .rows (ints (rangeL n n x.2)) 1 3)]) (fun _ => baseA w)
          (fun x => x.1 ≤ c ∧ x.2 = x.1 * n) (fun x => c - x.1) (0, 0) [(1, some 0)] (by decide) (fun _ => ⟨rfl, rfl⟩) ⟨Nat.zero_le _, (Nat.zero_mul n).symm⟩ ⟨rfl, ⟨rfl, rfl, rfl, rfl, rfl, rfl, rfl, trivial⟩, ⟨List.mem_cons_self, trivial⟩, fun _ _ h => h⟩ ?_
        rintro ⟨cc, m⟩ ⟨hcc, hm⟩
        dsimp only at hcc hm
        by_cases hlt : cc < c
        · (repeat' ((conv => whnf) <;> first | (show drawK _ _ _ _ _ _ _ _; refine draw_quiet tabOk mixed (by kernel_rfl) ?_) | (show Wp _ _ _ _ _ _ _; refine Wp.go tabOk rfl ?_) | (show @cmpK _ _ _; (first | refine cmpY ?_ | refine cmpN ?_ | (refine cmp_both ?_ ?_ <;> intro _))) | (show wrapK _ _ _; refine wrapA ?_) | (show leK _ _ _; refine leA ?_) | (show roomK _ _ _; refine roomA ?_) | (show ltK _ _ _; refine ltA ?_) | (show _ ∧ _; refine ⟨?_, ?_⟩) | (show keepK _ _ _ _ _; refine keepA ?_) | refine own_keep ?_ | refine ap_old ?_))
          all_goals (conv => whnf)
          have hcp : cc * n ≤ 64 * 128 := Nat.mul_le_mul (by omega) hp2
          have hms : cc * n + n ≤ c * n := by rw [← Nat.succ_mul]; exact Nat.mul_le_mul_right n hlt
          refine Wp.loop (σ := Nat × Nat) 3 (fun x => [(2, .c (.int .i64 slots)), (8, .c (.int .i64 (n : Nat))), (9, .c (.int .i64 (n : Nat))), (10, .c (.int .i64 (n : Nat))), (11, .os 2 x.2), (51, .c (.int .i64 (c : Nat))), (52, .c (.int .i64 cc)), (12, .c (.int .i64 cc)), (55, .c (.int .i64 (n : Nat))), (56, .c (.int .i64 x.1))]) (fun x => [(2, .rows (ints (rangeL n n x.2)) 1 3)]) (fun _ => baseA w)
            (fun x => x.1 ≤ n ∧ x.2 = cc * n + x.1) (fun x => n - x.1) (0, m) [(2, some 1)] (by decide) (fun _ => ⟨rfl, rfl⟩) ⟨Nat.zero_le _, hm⟩ ⟨rfl, ⟨rfl, rfl, rfl, rfl, rfl, rfl, rfl, rfl, rfl, rfl, trivial⟩, ⟨List.mem_cons_self, trivial⟩, fun _ _ h => h⟩ ?_
          rintro ⟨i, k⟩ ⟨hi, hk⟩
          dsimp only at hi hk
          by_cases hli : i < n
          · have hpl : (((cc * n : Nat) : Int) + (i : Int)) = placeL n n k := by rw [hk, placeL_at hli]; simp
            have hrl := rangeL_length n n k
            (repeat' ((conv => whnf) <;> first | (show wrapK _ _ _; (first | refine wrap_isS ((cc * n : Nat) : Int) (Int.natCast_mul cc n).symm (by omega) (by omega) ?_ | refine wrap_isS (placeL n n k) hpl (by omega) (by omega) ?_ | refine wrap_i64 (by omega) (by omega) ?_)) | (show leK _ _ _; refine le_of (Nat.le_of_eq (by rw [ints_length, rangeL_length])) ?_) | (show roomK _ _ _; (refine room_of (by show (k + 1) * 8 ≤ 140737488355328; omega) ?_)) | (show drawK _ _ _ _ _ _ _ _; refine draw_quiet tabOk mixed (by kernel_rfl) ?_) | (show Wp _ _ _ _ _ _ _; refine Wp.go tabOk rfl ?_) | (show @cmpK _ _ _; (first | refine cmpY ?_ | refine cmpN ?_ | (refine cmp_both ?_ ?_ <;> intro _))) | (show wrapK _ _ _; refine wrapA ?_) | (show leK _ _ _; refine leA ?_) | (show roomK _ _ _; refine roomA ?_) | (show ltK _ _ _; refine ltA ?_) | (show _ ∧ _; refine ⟨?_, ?_⟩) | (show keepK _ _ _ _ _; refine keepA ?_) | refine own_keep ?_ | refine ap_old ?_))
            all_goals (conv => whnf)
            exact ⟨(i + 1, k + 1), [(2, some 4)], ⟨hli, by show k + 1 = cc * n + (i + 1); omega⟩, by show n - (i + 1) < n - i; omega, rfl, ⟨rfl, rfl, rfl, rfl, rfl, rfl, rfl, rfl, rfl, rfl, trivial⟩, ⟨by show (4, Ent.rows (ints (rangeL n n (k + 1))) 1 3) ∈ _; rw [rangeL_succ]; exact ints_snocS _ _ (rangeL_length n n k).symm, trivial⟩, fun _ _ h => h⟩
          · (repeat' ((conv => whnf) <;> first | (show drawK _ _ _ _ _ _ _ _; refine draw_quiet tabOk mixed (by kernel_rfl) ?_) | (show Wp _ _ _ _ _ _ _; refine Wp.go tabOk rfl ?_) | (show @cmpK _ _ _; (first | refine cmpY ?_ | refine cmpN ?_ | (refine cmp_both ?_ ?_ <;> intro _))) | (show wrapK _ _ _; refine wrapA ?_) | (show leK _ _ _; refine leA ?_) | (show roomK _ _ _; refine roomA ?_) | (show ltK _ _ _; refine ltA ?_) | (show _ ∧ _; refine ⟨?_, ?_⟩) | (show keepK _ _ _ _ _; refine keepA ?_) | refine own_keep ?_ | refine ap_old ?_))
            all_goals (conv => whnf)
            exact ⟨(cc + 1, k), [(1, some 2)], ⟨hlt, by show k = (cc + 1) * n; rw [Nat.succ_mul]; omega⟩, by show c - (cc + 1) < c - cc; omega, rfl, ⟨rfl, rfl, rfl, rfl, rfl, rfl, rfl, trivial⟩, ⟨List.mem_cons_self, trivial⟩, fun _ _ h => h⟩
        · have hcc2 : cc = c := by omega
          rw [hcc2, hn] at hm
          have hpb := placeL_bd (i := n - 1) (n := n) hs1 hsp (by omega) hn64 hp2
          have hlast := rangeL_getD n n (k := n) (i := n - 1) (by omega)
          have hll := rangeL_length n n n
          have hm' := hm.symm
          subst hm'
          (repeat' ((conv => whnf) <;> first | (show idxRowK _ _ _ _ _ _; refine idxRow_of (n - 1) (by omega) (by omega) (Nat.le_of_eq (by rw [ints_length, rangeL_length])) ?_) | (show rowK _ _ _ _; refine ro_own (xs := rangeL n n n) (j := n - 1) (by omega) ?_) | (show drawK _ _ _ _ _ _ _ _; refine draw_quiet tabOk mixed (by kernel_rfl) ?_) | (show Wp _ _ _ _ _ _ _; refine Wp.go tabOk rfl ?_) | (show @cmpK _ _ _; (first | refine cmpY ?_ | refine cmpN ?_ | (refine cmp_both ?_ ?_ <;> intro _))) | (show wrapK _ _ _; refine wrapA ?_) | (show leK _ _ _; refine leA ?_) | (show roomK _ _ _; refine roomA ?_) | (show ltK _ _ _; refine ltA ?_) | (show _ ∧ _; refine ⟨?_, ?_⟩) | (show keepK _ _ _ _ _; refine keepA ?_) | refine own_keep ?_ | refine ap_old ?_))
          all_goals (conv => whnf)
          · exact slots_fail (fun _ _ h => h) rfl (if_pos (by omega))
          · exact slots_end (i := 1) (fun _ _ h => h) rfl hll.symm (range_fits hs1 hsp hn64 hp2) (by omega) (by repeat (first | exact List.mem_cons_self | apply List.mem_cons_of_mem)) (if_neg (by omega))
end Go.Proofs.Ytdmkdogakbipbaa

/- LT -/
namespace Go.Proofs.Ytdmkdogakbipbaa
open Go.RowKit Go.SX
end Go.Proofs.Ytdmkdogakbipbaa

/- LU -/
namespace Go.Proofs.Ytdmkdogakbipbaa
open Go.RowKit Go.SX
theorem intsF_ok {l1 : SX.Loc} {R : Nat → Prop} {w : World} {xs : List Int} (hf : ∀ x ∈ xs, i64 x) (h1 : xs.length ≤ l1.cap) (h2 : xs.length ≤ 1000000) (h : ((rowsA l1.base 1 (ints xs)).past 0).holds R w) : (⟨l1.base, l1.cap, xs⟩ : IntsV).ok w :=
  ⟨rowsA_in h, hf, h1, h2⟩
theorem intsP_ok {x : IntsV} {N : Nat} {R : Nat → Prop} {w : World} (hs : x.sane) (h : ((intsA x).past N).holds R w) : x.ok w := intsA_ok hs ((intsA x).mono h (fun _ hb => hb.1))
theorem diagA_ok {x : ShapesV} {D : List (List Int)} {R : Nat → Prop} {w : World} (hx : DiagIs D x) (hl : D.length ≤ 1000000) (h : (diagA x).holds R w) : x.okB w := ⟨rowsA_in h.1, fun u hu => intsA_ok (hx.sane u hu) (h.2 u hu), by have := congrArg List.length hx.rows; rw [List.length_map] at this; omega⟩
theorem diagP_ok {x : ShapesV} {N : Nat} {D : List (List Int)} {R : Nat → Prop} {w : World} (hx : DiagIs D x) (hl : D.length ≤ 1000000) (h : ((diagA x).past N).holds R w) : x.okB w := diagA_ok hx hl ((diagA x).mono h (fun _ hb => hb.1))
theorem slots_f : slotsL [2, 3, 1] 1 8 = ([0, 1, 2, 4, 5, 6], 0) := by
  have e : entries [2, 3, 1] = 6 := by unfold entries; rfl
  rw [slotsL, e]; decide
theorem diag_f : diagL [[5, 7]] [0, 1] [0] 2 = ([[5, 0], [7, 0]], 0) := by decide
theorem call_slots {cx : Cx} {f : FuncId} {args : List SV} {H : Heap} {S : Asn} {nx : Nat} {K : SV → Heap → Asn → Nat → Prop} (r : List Int × Int) (hf : ∀ ar w, (callFunc f ar).run cx.P w = .ok (.enter f ar) w)
    (hc : ∀ ρ w, Abs cx.B ρ nx H S w → Calls cx.P f (SV.rfs ρ args).toArray w (SlotsPost w r)) (h : ∀ x : IntsV, x.xs = r.1 → x.sane → K (.c (.tuple #[x.val, .int .i64 r.2])) H (S.and ((intsA x).past cx.B.w0.heap.size)) nx) : callK cx f args H S nx K := by
  refine call_past hf (fun x : IntsV => .tuple #[x.val, .int .i64 r.2]) intsA (fun x => x.xs = r.1 ∧ x.sane) (fun ρ w' hw => (hc ρ w' hw).mono ?_) (fun x hx => h x hx.1 hx.2)
  rintro e w2 ⟨x, h1, h2, h3, h4⟩
  exact ⟨x, h1, h2, h3, h4⟩
theorem call_diag {cx : Cx} {f : FuncId} {args : List SV} {H : Heap} {S : Asn} {nx : Nat} {K : SV → Heap → Asn → Nat → Prop} (r : List (List Int) × Int) (hf : ∀ ar w, (callFunc f ar).run cx.P w = .ok (.enter f ar) w)
    (hc : ∀ ρ w, Abs cx.B ρ nx H S w → Calls cx.P f (SV.rfs ρ args).toArray w (DiagPost w r.1 r.2)) (h : ∀ x : ShapesV, DiagIs r.1 x → (0 < x.l.length → ∃ a, x.base = some a) → K (.c (.tuple #[x.val, .int .i64 r.2])) H (S.and ((diagA x).past cx.B.w0.heap.size)) nx) : callK cx f args H S nx K := by
  refine call_past hf (fun x : ShapesV => .tuple #[x.val, .int .i64 r.2]) diagA (fun x => DiagIs r.1 x ∧ (0 < x.l.length → ∃ a, x.base = some a)) (fun ρ w' hw => (hc ρ w' hw).mono ?_) (fun x hx => h x hx.1 hx.2)
  rintro e w2 ⟨x, h1, h2, h3, h4⟩
  exact ⟨x, ⟨h1, fun h0 => base_some (j := 0) (rowsA_in h4.1) (by rw [shRows_length]; exact h0)⟩, h2, h3, h4⟩
theorem i64s {l : List Int} (h : (l.all fun x => decide (-1000 ≤ x ∧ x ≤ 1000)) = true) : ∀ x ∈ l, i64 x := fun x hx => by
  have := of_decide_eq_true (List.all_eq_true.1 h x hx)
  exact ⟨by omega, by omega⟩
set_option maxRecDepth 20000 in
set_option maxHeartbeats 4000000 in
theorem fixed19_any (w : World) : Calls Try.prog 27 #[] w fun e w' => e = .returned (.bool true) ∧ Ext w w' := by
  refine calls_of tab tabOk Try.func27 rfl rfl rfl [] (fun _ => ⟨none, 0⟩) [] [] (baseA w) 0 rfl rfl (by show 0 ≤ _; decide) (abs_base w) ?_
  (repeat' ((conv => whnf) <;> first | (show Wp _ _ _ _ _ _ _; refine Wp.go tabOk rfl ?_) | (show @cmpK _ _ _; (first | refine cmpY ?_ | refine cmpN ?_ | (refine cmp_both ?_ ?_ <;> intro _))) | (show wrapK _ _ _; refine wrapA ?_) | (show leK _ _ _; refine leA ?_) | (show roomK _ _ _; refine roomA ?_) | (show ltK _ _ _; refine ltA ?_) | (show _ ∧ _; refine ⟨?_, ?_⟩) | (show keepK _ _ _ _ _; refine keepA ?_) | refine ap_old ?_))
  refine own_freeze 0 (fun _ _ _ _ hb => absurd hb (Nat.not_lt_zero _)) (fun l1 hl1 => ?_)
  (repeat' ((conv => whnf) <;> first | (show callK _ 28 _ _ _ _ _; (refine call_slots ([0, 1, 2, 4, 5, 6], 0) Try.call28 (fun ρ w' hw => by rw [← slots_f]; exact slots_any w' ⟨l1.base, l1.cap, [2, 3, 1]⟩ (holds_of_abs hw fun R h => rowsA_in h.2) 1 8) (fun x hx hxs => ?_))) | (show Wp _ _ _ _ _ _ _; refine Wp.go tabOk rfl ?_) | (show @cmpK _ _ _; (first | refine cmpY ?_ | refine cmpN ?_ | (refine cmp_both ?_ ?_ <;> intro _))) | (show wrapK _ _ _; refine wrapA ?_) | (show leK _ _ _; refine leA ?_) | (show roomK _ _ _; refine roomA ?_) | (show ltK _ _ _; refine ltA ?_) | (show _ ∧ _; refine ⟨?_, ?_⟩) | (show keepK _ _ _ _ _; refine keepA ?_) | refine ap_old ?_))
  obtain ⟨xb, xc, xl⟩ := x
  simp only at hx
  subst hx
  (repeat' ((conv => whnf) <;> first | (show Wp _ _ _ _ _ _ _; refine Wp.go tabOk rfl ?_) | (show @cmpK _ _ _; (first | refine cmpY ?_ | refine cmpN ?_ | (refine cmp_both ?_ ?_ <;> intro _))) | (show wrapK _ _ _; refine wrapA ?_) | (show leK _ _ _; refine leA ?_) | (show roomK _ _ _; refine roomA ?_) | (show ltK _ _ _; refine ltA ?_) | (show _ ∧ _; refine ⟨?_, ?_⟩) | (show keepK _ _ _ _ _; refine keepA ?_) | refine ap_old ?_))
  refine own_freeze 0 (fun _ _ _ _ hb => absurd hb (Nat.not_lt_zero _)) (fun l2 hl2 => ?_)
  (repeat' ((conv => whnf) <;> first | (show Wp _ _ _ _ _ _ _; refine Wp.go tabOk rfl ?_) | (show @cmpK _ _ _; (first | refine cmpY ?_ | refine cmpN ?_ | (refine cmp_both ?_ ?_ <;> intro _))) | (show wrapK _ _ _; refine wrapA ?_) | (show leK _ _ _; refine leA ?_) | (show roomK _ _ _; refine roomA ?_) | (show ltK _ _ _; refine ltA ?_) | (show _ ∧ _; refine ⟨?_, ?_⟩) | (show keepK _ _ _ _ _; refine keepA ?_) | refine ap_old ?_))
  refine own_freeze 0 (fun _ _ _ _ hb => absurd hb (Nat.not_lt_zero _)) (fun l3 hl3 => ?_)
  (repeat' ((conv => whnf) <;> first | (show Wp _ _ _ _ _ _ _; refine Wp.go tabOk rfl ?_) | (show @cmpK _ _ _; (first | refine cmpY ?_ | refine cmpN ?_ | (refine cmp_both ?_ ?_ <;> intro _))) | (show wrapK _ _ _; refine wrapA ?_) | (show leK _ _ _; refine leA ?_) | (show roomK _ _ _; refine roomA ?_) | (show ltK _ _ _; refine ltA ?_) | (show _ ∧ _; refine ⟨?_, ?_⟩) | (show keepK _ _ _ _ _; refine keepA ?_) | refine ap_old ?_))
  refine own_freeze 0 (fun _ _ _ _ hb => absurd hb (Nat.not_lt_zero _)) (fun l4 hl4 => ?_)
  (repeat' ((conv => whnf) <;> first | (show Wp _ _ _ _ _ _ _; refine Wp.go tabOk rfl ?_) | (show @cmpK _ _ _; (first | refine cmpY ?_ | refine cmpN ?_ | (refine cmp_both ?_ ?_ <;> intro _))) | (show wrapK _ _ _; refine wrapA ?_) | (show leK _ _ _; refine leA ?_) | (show roomK _ _ _; refine roomA ?_) | (show ltK _ _ _; refine ltA ?_) | (show _ ∧ _; refine ⟨?_, ?_⟩) | (show keepK _ _ _ _ _; refine keepA ?_) | refine ap_old ?_))
  refine own_freeze 0 (fun _ _ _ _ hb => absurd hb (Nat.not_lt_zero _)) (fun l5 hl5 => ?_)
  (repeat' ((conv => whnf) <;> first | (show callK _ 31 _ _ _ _ _; (refine call_diag ([[5, 0], [7, 0]], 0) Try.call31 (fun ρ w' hw => by rw [← diag_f]; exact diag_any w' ⟨l3.base, l3.cap, [⟨l2.base, l2.cap, [5, 7]⟩]⟩ (holds_of_abs hw fun R h => ⟨rowsA_in h.1.1.2, fun u hu => by rw [List.mem_singleton.1 hu]; exact intsF_ok (i64s rfl) hl2 (show 2 ≤ 1000000 by decide) h.1.1.1.2, (show 1 ≤ 1000000 by decide)⟩) ⟨l4.base, l4.cap, [0, 1]⟩ ⟨l5.base, l5.cap, [0]⟩ (holds_of_abs hw fun R h => intsF_ok (i64s rfl) hl4 (show 2 ≤ 1000000 by decide) h.1.2) (holds_of_abs hw fun R h => intsF_ok (i64s rfl) hl5 (show 1 ≤ 1000000 by decide) h.2) 2 ⟨by decide, by decide⟩) (fun y hy hyb => ?_))) | (show Wp _ _ _ _ _ _ _; refine Wp.go tabOk rfl ?_) | (show @cmpK _ _ _; (first | refine cmpY ?_ | refine cmpN ?_ | (refine cmp_both ?_ ?_ <;> intro _))) | (show wrapK _ _ _; refine wrapA ?_) | (show leK _ _ _; refine leA ?_) | (show roomK _ _ _; refine roomA ?_) | (show ltK _ _ _; refine ltA ?_) | (show _ ∧ _; refine ⟨?_, ?_⟩) | (show keepK _ _ _ _ _; refine keepA ?_) | refine ap_old ?_))
  obtain ⟨yb, yc, yl⟩ := y
  obtain ⟨u, v, rfl, hu, hv⟩ : ∃ u v, yl = [u, v] ∧ u.xs = [5, 0] ∧ v.xs = [7, 0] := by
    have h := hy.rows
    have h2 : yl.length = 2 := by have := congrArg List.length h; simpa using this
    match yl, h2, h with
    | [u, v], _, h => exact ⟨u, v, rfl, by simpa using (List.cons.inj h).1, by simpa using (List.cons.inj (List.cons.inj h).2).1⟩
  obtain ⟨a, rfl⟩ : ∃ a, yb = some a := hyb (show 0 < 2 by decide)
  have hyr : ∀ {R : Nat → Prop} {w' : World}, ((diagA ⟨some a, yc, [u, v]⟩).past w.heap.size).holds R w' → RowsI w' (some a) 1 (shRows [u, v]) := fun h => (diagP_ok hy (show 2 ≤ 1000000 by decide) h).rows
  (repeat' ((conv => whnf) <;> first | (show @cmpK _ _ _; refine cmp_yes rfl ?_) | (show Wp _ _ _ _ _ _ _; refine Wp.go tabOk rfl ?_) | (show @cmpK _ _ _; (first | refine cmpY ?_ | refine cmpN ?_ | (refine cmp_both ?_ ?_ <;> intro _))) | (show wrapK _ _ _; refine wrapA ?_) | (show leK _ _ _; refine leA ?_) | (show roomK _ _ _; refine roomA ?_) | (show ltK _ _ _; refine ltA ?_) | (show _ ∧ _; refine ⟨?_, ?_⟩) | (show keepK _ _ _ _ _; refine keepA ?_) | refine ap_old ?_))
  refine own_freeze 0 (fun _ _ _ _ hb => absurd hb (Nat.not_lt_zero _)) (fun l6 hl6 => ?_)
  (repeat' ((conv => whnf) <;> first | (show @cmpK _ _ _; refine cmp_yes rfl ?_) | (show idxK _ _ _ _ _; (first | refine idx_of a 0 rfl rfl (show 0 < 2 by decide) ?_)) | (show roK _ _ _; (first | refine ro_row0 (fun R w' h => hyr h.1.2) [u.val] u.val rfl rfl ?_)) | (show callK _ 26 _ _ _ _ _; (refine call_pure (f := 26) Try.call26 (.bool true) (fun ρ w' hw => by have := same_any w' ⟨xb, xc, [0, 1, 2, 4, 5, 6]⟩ ⟨l6.base, l6.cap, [0, 1, 2, 4, 5, 6]⟩ (holds_of_abs hw fun R h => intsP_ok hxs h.1.1.1.1.1.1.2) (holds_of_abs hw fun R h => intsF_ok (i64s rfl) hl6 (show 6 ≤ 1000000 by decide) h.2); exact this) ?_)) | (show Wp _ _ _ _ _ _ _; refine Wp.go tabOk rfl ?_) | (show @cmpK _ _ _; (first | refine cmpY ?_ | refine cmpN ?_ | (refine cmp_both ?_ ?_ <;> intro _))) | (show wrapK _ _ _; refine wrapA ?_) | (show leK _ _ _; refine leA ?_) | (show roomK _ _ _; refine roomA ?_) | (show ltK _ _ _; refine ltA ?_) | (show _ ∧ _; refine ⟨?_, ?_⟩) | (show keepK _ _ _ _ _; refine keepA ?_) | refine ap_old ?_))
  refine own_freeze 0 (fun _ _ _ _ hb => absurd hb (Nat.not_lt_zero _)) (fun l7 hl7 => ?_)
  (repeat' ((conv => whnf) <;> first | (show @cmpK _ _ _; refine cmp_yes rfl ?_) | (show idxK _ _ _ _ _; (first | refine idx_of a 1 rfl rfl (show 1 < 2 by decide) ?_)) | (show roK _ _ _; (first | refine ro_row0 (fun R w' h => hyr h.1.1.2) [v.val] v.val rfl rfl ?_)) | (show callK _ 26 _ _ _ _ _; (refine call_pure (f := 26) Try.call26 (.bool true) (fun ρ w' hw => by have := same_any w' u ⟨l7.base, l7.cap, [5, 0]⟩ (holds_of_abs hw fun R h => (diagP_ok hy (show 2 ≤ 1000000 by decide) h.1.1.2).each u (List.mem_cons_self)) (holds_of_abs hw fun R h => intsF_ok (i64s rfl) hl7 (show 2 ≤ 1000000 by decide) h.2); rw [decide_eq_true (show u.xs = [5, 0] from hu)] at this; exact this) ?_)) | (show Wp _ _ _ _ _ _ _; refine Wp.go tabOk rfl ?_) | (show @cmpK _ _ _; (first | refine cmpY ?_ | refine cmpN ?_ | (refine cmp_both ?_ ?_ <;> intro _))) | (show wrapK _ _ _; refine wrapA ?_) | (show leK _ _ _; refine leA ?_) | (show roomK _ _ _; refine roomA ?_) | (show ltK _ _ _; refine ltA ?_) | (show _ ∧ _; refine ⟨?_, ?_⟩) | (show keepK _ _ _ _ _; refine keepA ?_) | refine ap_old ?_))
  refine own_freeze 0 (fun _ _ _ _ hb => absurd hb (Nat.not_lt_zero _)) (fun l8 hl8 => ?_)
  (repeat' ((conv => whnf) <;> first | (show @cmpK _ _ _; refine cmp_yes rfl ?_) | (show callK _ 26 _ _ _ _ _; (refine call_pure (f := 26) Try.call26 (.bool true) (fun ρ w' hw => by have := same_any w' v ⟨l8.base, l8.cap, [7, 0]⟩ (holds_of_abs hw fun R h => (diagP_ok hy (show 2 ≤ 1000000 by decide) h.1.1.1.2).each v (List.mem_cons_of_mem _ List.mem_cons_self)) (holds_of_abs hw fun R h => intsF_ok (i64s rfl) hl8 (show 2 ≤ 1000000 by decide) h.2); rw [decide_eq_true (show v.xs = [7, 0] from hv)] at this; exact this) ?_)) | (show Wp _ _ _ _ _ _ _; refine Wp.go tabOk rfl ?_) | (show @cmpK _ _ _; (first | refine cmpY ?_ | refine cmpN ?_ | (refine cmp_both ?_ ?_ <;> intro _))) | (show wrapK _ _ _; refine wrapA ?_) | (show leK _ _ _; refine leA ?_) | (show roomK _ _ _; refine roomA ?_) | (show ltK _ _ _; refine ltA ?_) | (show _ ∧ _; refine ⟨?_, ?_⟩) | (show keepK _ _ _ _ _; refine keepA ?_) | refine own_keep ?_ | refine ap_old ?_))
  conv => whnf
  exact ends_bool (B := ⟨w, []⟩) (fun R w' h => h.1.1.1.1.1.1.1.1.1.1) rfl rfl
end Go.Proofs.Ytdmkdogakbipbaa

/- LY -/
namespace Go.Proofs.Ytdmkdogakbipbaa
open Go.RowKit Go.SX
def stepR (n : Nat) (d : Int) (r : List Int × Bool) (s f w : Int) : List Int × Bool := if (s + d) % n = f then (r.1.set s.toNat w, r.2 || decide (w ≠ 0)) else r
theorem getD_at {l : List Int} {k : Nat} (h : k < l.length) : l.getD k 0 = l[k] := by simp [List.getD, h]
theorem modn {x : Int} {n : Nat} (h0 : 0 ≤ x) (h1 : x < 2 * n) : x % n = if x < n then x else x - n := by
  split
  · exact Int.emod_eq_of_lt h0 (by assumption)
  · have : x = x - n + n := by omega
    rw [this, Int.add_emod_right, Int.emod_eq_of_lt (by omega) (by omega)]; omega
theorem cond_iff {s f : Int} {d n : Nat} (hs : 0 ≤ s ∧ s < n) (hf : 0 ≤ f ∧ f < n) (hd : d < n) : (s + (d : Int)) % n = f ↔ ((f - s + n) % n).toNat = d := by
  rw [modn (x := s + d) (by omega) (by omega), modn (x := f - s + n) (by omega) (by omega)]
  split <;> split <;> omega
structure DRel (n d : Nat) (D : List (List Int)) (r : List Int × Bool) : Prop where
  lenD : D.length = n
  len : r.1.length = n
  is : D.getD d [] = if r.2 then r.1 else []
  zero : r.2 = false → r.1 = List.replicate n 0
theorem getD_set_eq {α : Type} {l : List α} {k : Nat} {x y : α} (h : k < l.length) : (l.set k x).getD k y = x := by simp [List.getD, h]
theorem getD_set_ne {α : Type} {l : List α} {k j : Nat} {x y : α} (h : k ≠ j) : (l.set k x).getD j y = l.getD j y := by simp [List.getD, List.getElem?_set_ne h]
theorem set_same_getD {l : List Int} {k : Nat} (hk : k < l.length) (h : l.getD k 0 = 0) : l.set k 0 = l := by
  apply List.ext_getElem?
  intro i
  by_cases e : k = i
  · subst e
    rw [List.getElem?_set_self hk]
    rw [getD_at hk] at h
    rw [List.getElem?_eq_getElem hk, h]
  · rw [List.getElem?_set_ne e]
theorem DRel.step {n d : Nat} (hd : d < n) {D : List (List Int)} {r : List Int × Bool} (h : DRel n d D r) {s f w : Int} (hs : 0 ≤ s ∧ s < n) (hf : 0 ≤ f ∧ f < n) (hz : (s + (d : Int)) % n = f → r.1.getD s.toNat 0 = 0) : DRel n d (stepP n D s f w) (stepR n d r s f w) := by
  have hsn : s.toNat < n := by omega
  have hc := cond_iff hs hf hd
  obtain ⟨l, b⟩ := r
  obtain ⟨h1, h2, h3, h4⟩ := h
  simp only at h2 h3 h4 hz
  unfold stepP stepR
  by_cases hw : w = 0
  · subst hw
    rw [if_pos rfl]
    split
    · rename_i g
      have := set_same_getD (by omega) (hz g)
      simp only [this]
      exact ⟨h1, h2, by simpa using h3, by simpa using h4⟩
    · exact ⟨h1, h2, h3, h4⟩
  · rw [if_neg hw]
    have hd2 : ((f - s + n) % n).toNat < n := by
      have := Int.emod_nonneg (f - s + n) (show (n : Int) ≠ 0 by omega)
      have := Int.emod_lt_of_pos (f - s + n) (show (0 : Int) < n by omega)
      omega
    by_cases g : (s + (d : Int)) % n = f
    · rw [if_pos g, hc.1 g]
      refine ⟨by rw [List.length_set]; exact h1, by rw [List.length_set]; exact h2, ?_, fun e => by simp [hw] at e⟩
      rw [getD_set_eq (by omega), h3]
      cases b with
      | true =>
        have hne : l ≠ [] := fun e => by rw [e] at h2; simp at h2; omega
        simp [hne]
      | false =>
        rw [h4 rfl]
        simp [hw]
    · rw [if_neg g]
      have hne : ((f - s + n) % n).toNat ≠ d := fun e => g (hc.2 e)
      exact ⟨by rw [List.length_set]; exact h1, h2, by rw [getD_set_ne hne]; exact h3, h4⟩
end Go.Proofs.Ytdmkdogakbipbaa

/- LZ -/
namespace Go.Proofs.Ytdmkdogakbipbaa
open Go.RowKit Go.SX
end Go.Proofs.Ytdmkdogakbipbaa

/- MA -/
namespace Go.Proofs.Ytdmkdogakbipbaa
open Go.RowKit Go.SX
end Go.Proofs.Ytdmkdogakbipbaa

/- MD -/
namespace Go.Proofs.Ytdmkdogakbipbaa
open Go.RowKit Go.SX
def W64 (z : Int) : Int := IntKind.i64.wrap z
theorem W64_eq (z : Int) : W64 z = if z % 18446744073709551616 ≥ 9223372036854775808 then z % 18446744073709551616 - 18446744073709551616 else z % 18446744073709551616 := by
  unfold W64 IntKind.wrap
  simp [IntKind.signed, IntKind.bits]
theorem W64_i64 (z : Int) : i64 (W64 z) := by
  rw [W64_eq]
  constructor <;> split <;> omega
theorem W64_add (a b : Int) : W64 (W64 a + W64 b) = W64 (a + b) := by
  rw [W64_eq (W64 a + W64 b), W64_eq (a + b), W64_eq a, W64_eq b]
  split <;> split <;> split <;> split <;> omega
/-- wrapped lists that keep to an exact one -/
structure Keeps (n : Nat) (E : Nat → Int) (l : List Int) : Prop where
  len : l.length = n
  at_ : ∀ s, s < n → l.getD s 0 = W64 (E s)
theorem Keeps.fits {n : Nat} {E : Nat → Int} {l : List Int} (h : Keeps n E l) : ∀ x ∈ l, i64 x := fun x hx => by
  obtain ⟨k, hk, rfl⟩ := List.mem_iff_getElem.1 hx
  have := h.at_ k (by rw [← h.len]; exact hk)
  rw [getD_at hk] at this
  rw [this]; exact W64_i64 _
theorem Keeps.eq {n : Nat} {E E' : Nat → Int} {l l' : List Int} (h : Keeps n E l) (h' : Keeps n E' l') (he : ∀ s, s < n → E s = E' s) : l = l' := by
  apply List.ext_getElem
  · rw [h.len, h'.len]
  · intro k h1 h2
    have a1 := h.at_ k (by rw [← h.len]; exact h1)
    have a2 := h'.at_ k (by rw [← h.len]; exact h1)
    rw [getD_at h1] at a1
    rw [getD_at h2] at a2
    rw [a1, a2, he k (by rw [← h.len]; exact h1)]
theorem Keeps.step {n : Nat} {E E' : Nat → Int} {l : List Int} (h : Keeps n E l) {s : Nat} (hs : s < n) {p : Int} (he : E' s = E s + p) (hne : ∀ j, j ≠ s → E' j = E j) : Keeps n E' (l.set s (W64 (l.getD s 0 + W64 p))) := by
  refine ⟨by rw [List.length_set]; exact h.len, fun j hj => ?_⟩
  by_cases e : s = j
  · subst e
    rw [getD_set_eq (by rw [h.len]; exact hs), h.at_ s hs, W64_add, he]
  · rw [getD_set_ne e, h.at_ j hj, hne j (fun g => e g.symm)]
end Go.Proofs.Ytdmkdogakbipbaa

/- MU -/
namespace Go.Proofs.Ytdmkdogakbipbaa
open Go.RowKit Go.SX
def at0 (n : NodeV) : NodeV := { n with a := 0 }
theorem lin_in_form {n : NodeV} (hk : isLin n ∨ n.kind = 9) {m : Nat} (h : formB n m = true) : formB (at0 n) 1 = true := by
  unfold isLin at hk
  unfold formB at h ⊢
  unfold lacksB aheadB at h ⊢
  simp only [at0]
  rcases hk with (h3 | h4 | h5) | h9
  · simp only [h3] at h ⊢; simp at h ⊢; grind
  · simp only [h4] at h ⊢; simp at h ⊢; grind
  · simp only [h5] at h ⊢; simp at h ⊢; grind
  · simp only [h9] at h ⊢; simp at h ⊢; grind
theorem at0_shape {n : NodeV} (hk : isLin n ∨ n.kind = 9) {sh : List (List Int)} {t s : List Int} (ht : sh.getD n.a.toNat [] = t) (h : shapeO n sh = some s) : shapeO (at0 n) [t] = some s := by
  subst ht
  unfold isLin at hk
  unfold shapeO at h ⊢
  rcases hk with (h3 | h4 | h5) | h9
  · simp only [at0, h3] at h ⊢; simpa using h
  · simp only [at0, h4] at h ⊢; simpa using h
  · simp only [at0, h5] at h ⊢; simpa using h
  · simp only [at0, h9] at h ⊢; simpa using h
theorem at0_near {n : NodeV} (h : nearB n = true) : nearB (at0 n) = true := by
  unfold nearB at h ⊢; exact h
theorem inpN_form {t : IntsV} (h : 0 < entries t.xs) (m : Nat) : formB (inpN t) m = true := by
  unfold formB lacksB
  simp [inpN, nilV, h]
theorem inpN_near (t : IntsV) : nearB (inpN t) = true := by
  unfold nearB nearL
  simp [inpN, nilV]
theorem rows_ok {n : NodeV} {sh : List (List Int)} {s : List Int} {t : IntsV} {m : Nat} (hk : isLin n ∨ n.kind = 9) (hf : formB n m = true) (ht : sh.getD n.a.toNat [] = t.xs) (hs : shapeO n sh = some s) (hn : nearB n = true) (hp : 0 < entries t.xs) : okRows (at0 n) t ∧ (chk2 (at0 n) t).2 = [t.xs, s] := by
  have hc : chk2 (at0 n) t = (0, [t.xs, s]) := by
    unfold chk2 check
    rw [if_neg (by simp)]
    show checkR [inpN t, at0 n] [] = _
    rw [checkR_next (inpN_form hp _) (show shapeO (inpN t) [] = some t.xs by unfold shapeO; rw [if_pos (.inl rfl)]; rfl) (inpN_near t)]
    show checkR [at0 n] [t.xs] = _
    rw [checkR_next (lin_in_form hk hf) (at0_shape hk ht hs) (at0_near hn)]
    rfl
  refine ⟨⟨?_, rfl, by rw [hc]⟩, by rw [hc]⟩
  unfold isLin at hk ⊢
  exact hk
end Go.Proofs.Ytdmkdogakbipbaa

/- JN -/
namespace Go.Proofs.Ytdmkdogakbipbaa
abbrev dtJN0 : Go.SX.DT := (.take 0 (.take 1 (.take 2 (.take 3 (.take 4 (.take 5 (.take 6 (.one 7 (.one 8 (.done))))))))))
open Go.SX Go.RowKit
theorem foldl_take {f : Int → Int → Int} {x : Int} {l : List Int} {i : Nat} (h : i < l.length) : (l.take (i + 1)).foldl f x = f ((l.take i).foldl f x) (l.getD i 0) := by
  have e : l.getD i 0 = l[i] := by rw [List.getD_eq_getElem?_getD, List.getElem?_eq_getElem h]; rfl
  rw [List.take_succ_eq_append_getElem h, List.foldl_append, e]; rfl
theorem foldI_self {f : Int → Int → Int} (hf : ∀ x, f x x = x) {l : List Int} (h : 1 ≤ l.length) : l.foldl f (l.getD 0 0) = foldI f l := by
  cases l with
  | nil => simp at h
  | cons x r => show (r.foldl f (f x x)) = r.foldl f x; rw [hf]
set_option maxRecDepth 20000 in
theorem cover_any (w : World) (l : IntsV) (hl : l.ok w) (h1 : 1 ≤ l.xs.length) : Calls Try.prog 108 #[l.val] w fun e w' => e = .returned (spanV (foldI min l.xs, foldI max l.xs)) ∧ Ext w w' := by
  obtain ⟨ua, hua⟩ := hl.base h1
  have hur : ∀ (R : Nat → Prop) w', (baseA w).holds R w' → RowsI w' (some ua) 1 (ints l.xs) := fun R w' h => by rw [← hua]; exact rows_base h hl.rows
  have hf := hl.few
  refine calls_of tab tabOk Try.func108 rfl rfl rfl [] (fun _ => ⟨none, 0⟩) [.c l.val] [] (baseA w) 0 rfl rfl (by show 1 ≤ _; decide) (abs_base w) ?_
  (repeat' ((conv => whnf) <;> first | (show idxK _ _ _ _ _; refine idx_of ua 0 hua rfl (by omega) ?_) | (show roK _ _ _; refine ro_int hur (j := 0) (by omega) ?_) | (show drawK _ 1 _ _ _ _ _ _; refine draw_tree tabOk mixed [8] _ dtJN0 (by kernel_rfl) (by kernel_rfl) (by kernel_rfl) (List.Sublist.refl _) ?_) | (show Wp _ _ _ _ _ _ _; refine Wp.go tabOk rfl ?_) | (show @cmpK _ _ _; (first | refine cmpY ?_ | refine cmpN ?_ | (refine cmp_both ?_ ?_ <;> intro _))) | (show wrapK _ _ _; refine wrapA ?_) | (show leK _ _ _; refine leA ?_) | (show roomK _ _ _; refine roomA ?_) | (show ltK _ _ _; refine ltA ?_) | (show _ ∧ _; refine ⟨?_, ?_⟩) | (show keepK _ _ _ _ _; refine keepA ?_) | refine own_keep ?_ | refine ap_old ?_))
  all_goals refine Wp.loop (σ := Nat) 2 (fun i => [(2, .lp 0 0 0 0), (3, .lp 1 0 0 0), (13, .c l.val), (14, .c (.int .i64 l.xs.length)), (15, .c (.int .i64 i))]) (fun i => [(1, .box [.c (.int .i64 ((l.xs.take i).foldl min (l.xs.getD 0 0))), .c (.int .i64 ((l.xs.take i).foldl max (l.xs.getD 0 0)))] 68), (0, .box [.c (.int .i64 0), .c (.int .i64 0)] 68)]) (fun _ => baseA w) (fun i => i ≤ l.xs.length) (fun i => l.xs.length - i) 0 [] (by decide) (fun s => ⟨rfl, rfl⟩) (Nat.zero_le _) ⟨rfl, ⟨rfl, rfl, rfl, rfl, rfl, trivial⟩, ⟨(by repeat (first | exact List.mem_cons_self | apply List.mem_cons_of_mem)), (by repeat (first | exact List.mem_cons_self | apply List.mem_cons_of_mem)), trivial⟩, fun _ _ h => h⟩ ?_
  all_goals rintro i hi
  all_goals by_cases hlt : i < l.xs.length
  · (repeat' ((conv => whnf) <;> first | (show idxK _ _ _ _ _; refine idx_of ua i hua rfl hlt ?_) | (show roK _ _ _; refine ro_int hur (j := i) hlt ?_) | (show drawK _ 1 _ _ _ _ _ _; refine draw_tree tabOk mixed [8] _ dtJN0 (by kernel_rfl) (by kernel_rfl) (by kernel_rfl) (List.Sublist.refl _) ?_) | (show Wp _ _ _ _ _ _ _; refine Wp.go tabOk rfl ?_) | (show @cmpK _ _ _; (first | refine cmpY ?_ | refine cmpN ?_ | (refine cmp_both ?_ ?_ <;> intro _))) | (show wrapK _ _ _; refine wrapA ?_) | (show leK _ _ _; refine leA ?_) | (show roomK _ _ _; refine roomA ?_) | (show ltK _ _ _; refine ltA ?_) | (show _ ∧ _; refine ⟨?_, ?_⟩) | (show keepK _ _ _ _ _; refine keepA ?_) | refine own_keep ?_ | refine ap_old ?_))
    all_goals (conv => whnf)
    all_goals exact ⟨i + 1, [], hlt, by omega, rfl, ⟨rfl, rfl, rfl, rfl, rfl, trivial⟩, ⟨by rw [foldl_take hlt, foldl_take hlt]; first | (rw [Int.min_eq_left (by omega), Int.max_eq_left (by omega)]; exact (by repeat (first | exact List.mem_cons_self | apply List.mem_cons_of_mem))) | (rw [Int.min_eq_left (by omega), Int.max_eq_right (by omega)]; exact (by repeat (first | exact List.mem_cons_self | apply List.mem_cons_of_mem))) | (rw [Int.min_eq_right (by omega), Int.max_eq_left (by omega)]; exact (by repeat (first | exact List.mem_cons_self | apply List.mem_cons_of_mem))) | (rw [Int.min_eq_right (by omega), Int.max_eq_right (by omega)]; exact (by repeat (first | exact List.mem_cons_self | apply List.mem_cons_of_mem))), (by repeat (first | exact List.mem_cons_self | apply List.mem_cons_of_mem)), trivial⟩, fun _ _ h => h⟩
  · obtain rfl : i = l.xs.length := by omega
    rw [List.take_of_length_le (Nat.le_refl _), foldI_self (by omega) h1, foldI_self (by omega) h1]
    (repeat' ((conv => whnf) <;> first | (show drawK _ 1 _ _ _ _ _ _; refine draw_tree tabOk mixed [8] _ dtJN0 (by kernel_rfl) (by kernel_rfl) (by kernel_rfl) (List.Sublist.refl _) ?_) | (show Wp _ _ _ _ _ _ _; refine Wp.go tabOk rfl ?_) | (show @cmpK _ _ _; (first | refine cmpY ?_ | refine cmpN ?_ | (refine cmp_both ?_ ?_ <;> intro _))) | (show wrapK _ _ _; refine wrapA ?_) | (show leK _ _ _; refine leA ?_) | (show roomK _ _ _; refine roomA ?_) | (show ltK _ _ _; refine ltA ?_) | (show _ ∧ _; refine ⟨?_, ?_⟩) | (show keepK _ _ _ _ _; refine keepA ?_) | refine own_keep ?_ | refine ap_old ?_))
    all_goals (conv => whnf)
    all_goals exact ends_of (fun _ _ h => h) (fun _ => rfl) rfl
theorem linear_any (w : World) (k : Int) : Calls Try.prog 85 #[.int .i64 k] w fun e w' => e = .returned (.bool (decide (k = 3 ∨ k = 4 ∨ k = 5))) ∧ Ext w w' := by
  refine calls_of tab tabOk Try.func85 rfl rfl rfl [] (fun _ => ⟨none, 0⟩) [.c (.int .i64 k)] [] (baseA w) 0 rfl rfl (by show 1 ≤ _; decide) (abs_base w) ?_
  (repeat' ((conv => whnf) <;> first | (show Wp _ _ _ _ _ _ _; refine Wp.go tabOk rfl ?_) | (show @cmpK _ _ _; (first | refine cmpY ?_ | refine cmpN ?_ | (refine cmp_both ?_ ?_ <;> intro _))) | (show wrapK _ _ _; refine wrapA ?_) | (show leK _ _ _; refine leA ?_) | (show roomK _ _ _; refine roomA ?_) | (show ltK _ _ _; refine ltA ?_) | (show _ ∧ _; refine ⟨?_, ?_⟩) | (show keepK _ _ _ _ _; refine keepA ?_) | refine own_keep ?_ | refine ap_old ?_))
  all_goals (conv => whnf)
  all_goals exact ends_of (fun _ _ h => h) (fun _ => by first | (rw [decide_eq_true (by omega)]; rfl) | (rw [decide_eq_false (by omega)]; rfl)) rfl
theorem rpower_any (w : World) (c b a v : Int) (hc : bd20 c) (hb : bd20 b) (ha : bd20 a) (hv : bd20 v) : Calls Try.prog 86 #[.int .i64 c, .int .i64 b, .int .i64 a, .int .i64 v] w fun e w' => e = .returned (.int .i64 (a * v * v + b * v + c)) ∧ Ext w w' := by
  obtain ⟨h1, h2, h3⟩ := pow_bd ha hb hc hv
  unfold bd20 at hc
  refine calls_of tab tabOk Try.func86 rfl rfl rfl [] (fun _ => ⟨none, 0⟩) [.c (.int .i64 c), .c (.int .i64 b), .c (.int .i64 a), .c (.int .i64 v)] [] (baseA w) 0 rfl rfl (by show 4 ≤ _; decide) (abs_base w) ?_
  (repeat' ((conv => whnf) <;> first | (show Wp _ _ _ _ _ _ _; refine Wp.go tabOk rfl ?_) | (show @cmpK _ _ _; (first | refine cmpY ?_ | refine cmpN ?_ | (refine cmp_both ?_ ?_ <;> intro _))) | (show wrapK _ _ _; refine wrapA ?_) | (show leK _ _ _; refine leA ?_) | (show roomK _ _ _; refine roomA ?_) | (show ltK _ _ _; refine ltA ?_) | (show _ ∧ _; refine ⟨?_, ?_⟩) | (show keepK _ _ _ _ _; refine keepA ?_) | refine own_keep ?_ | refine ap_old ?_))
  all_goals (conv => whnf)
  all_goals exact ends_of (fun _ _ h => h) (fun _ => rfl) rfl
end Go.Proofs.Ytdmkdogakbipbaa

/- JO -/
namespace Go.Proofs.Ytdmkdogakbipbaa
open Go.SX Go.RowKit
theorem call_mat {cx : Cx} {f : FuncId} {args : List SV} {H : Heap} {S : Asn} {nx : Nat} {K : SV → Heap → Asn → Nat → Prop} (n : NodeV) (tl : List Int) (cnt : Nat) (hf : ∀ ar w, (callFunc f ar).run cx.P w = .ok (.enter f ar) w)
    (hc : ∀ ρ w', Abs cx.B ρ nx H S w' → Calls cx.P f (SV.rfs ρ args).toArray w' (MatPost w' n tl cnt))
    (h : ∀ x : MatV, MatIs n tl cnt x → K (.c x.val) H (S.and ((matD x).past cx.B.w0.heap.size)) nx) : callK cx f args H S nx K := by
  rw [callK_def]
  refine ⟨hf, fun ρ w hw => (hc ρ w hw).mono ?_⟩
  rintro e w' ⟨x, hx, rfl, he, hD⟩
  exact ⟨.c x.val, ρ, H, _, nx, rfl, fun _ _ => rfl, Nat.le_refl _, SV.lt_c _, hw.grow he hD, h x hx⟩
theorem sumG_bd (g : Nat → Int → Int) (B : Int) : ∀ {l : List Int} {i : Nat}, (∀ k w, w ∈ l → -B ≤ g k w ∧ g k w ≤ B) → -(l.length * B) ≤ sumG g i l ∧ sumG g i l ≤ l.length * B
  | [], i, _ => by simp [sumG]
  | x :: r, i, h => by
    have h1 := h i x List.mem_cons_self
    have h2 := sumG_bd g B (l := r) (i := i + 1) (fun k w hw => h k w (List.mem_cons_of_mem _ hw))
    rw [sumG, List.length_cons, Int.natCast_add, Int.add_mul]
    simp only [Int.natCast_one, Int.one_mul]
    omega
theorem sumG_bd40 (g : Nat → Int → Int) {l : List Int} {j : Nat} (hj : j ≤ 64) (h : ∀ k w, w ∈ l → -1099511627776 ≤ g k w ∧ g k w ≤ 1099511627776) : -70368744177664 ≤ sumG g 0 (l.take j) ∧ sumG g 0 (l.take j) ≤ 70368744177664 := by
  have := sumG_bd g 1099511627776 (l := l.take j) (i := 0) (fun k w hw => h k w (List.mem_of_mem_take hw))
  rw [List.length_take] at this
  have e : ((min j l.length : Nat) : Int) ≤ 64 := by omega
  omega
theorem dense_cut {n : NodeV} {sh : List (List Int)} {s t : List Int} {cnt : Nat} (h : PlaceIn n sh s t cnt) (hk : n.kind = 3) {o : Nat} (ho : o < cnt) : o * (entries t).toNat + (entries t).toNat ≤ n.data.xs.length := by
  have hsh := h.node.shape
  have hc := h.cnt
  obtain ⟨hf, hgp⟩ := h.first (.inl hk)
  obtain ⟨b1, b2⟩ := (formed_of h.node.form).bias hk
  unfold shapeO at hsh
  rw [if_neg (by omega), if_pos hk, hf] at hsh
  split at hsh
  · rename_i hdl
    rw [Option.some.injEq] at hsh
    have he1 : entries [(n.bias.xs.length : Int)] = n.bias.xs.length := by
      unfold entries
      rw [if_neg (by simp)]
      simp only [entLoop]
      rw [if_neg (by omega)]
      omega
    rw [← hsh, he1] at hc
    obtain ⟨size, hsz⟩ : ∃ size : Nat, entries t = size := ⟨(entries t).toNat, by omega⟩
    have hdl' : n.data.xs.length = n.bias.xs.length * size := by
      rw [hsz, ← Int.natCast_mul] at hdl
      exact Int.ofNat.inj hdl
    rw [hsz, Int.toNat_natCast]
    have : (o + 1) * size ≤ n.bias.xs.length * size := Nat.mul_le_mul_right _ (by omega)
    rw [Nat.add_mul, Nat.one_mul] at this
    omega
  · cases hsh
theorem mat_len {n : NodeV} {sh : List (List Int)} {s t : List Int} {cnt : Nat} (h : PlaceIn n sh s t cnt) {o : Nat} (ho : o < cnt) : (matRow n t o).length = (entries t).toNat := by
  unfold matRow
  split
  · rename_i hk
    have := dense_cut h hk ho
    rw [List.length_take, List.length_drop]; omega
  · rw [setsT_length, List.length_replicate]
theorem mat_bd {n : NodeV} {sh : List (List Int)} {s : List Int} {t : IntsV} {cnt : Nat} (h : PlaceIn n sh s t.xs cnt) (hl : isLin n) (o : Nat) : ∀ x ∈ matRow n t.xs o, bd20 x := by
  obtain ⟨nd, nb, _, _, _⟩ := near_in h.node.near
  intro x hx
  unfold matRow at hx
  split at hx
  · exact nd x (List.mem_of_mem_drop (List.mem_of_mem_take hx))
  · rename_i hk3
    refine sets_bd _ _ (fun y hy => by rw [(List.mem_replicate.1 hy).2]; exact ⟨by decide, by decide⟩) (fun u hu => ?_) x hx
    unfold termsG at hu
    rw [if_neg hk3] at hu
    split at hu
    · exact convT_bd nd rfl u hu
    · exact poolT_bd rfl u hu
theorem bias_bd {n : NodeV} (nb : ∀ x ∈ n.bias.xs, bd20 x) (cnt o : Nat) : bd20 (biasI n cnt o) := by
  unfold biasI
  split
  · exact getD_bd nb _
  · split
    · exact getD_bd nb _
    · exact ⟨by decide, by decide⟩
theorem MatIs.row {n : NodeV} {tl : List Int} {cnt : Nat} {x : MatV} (h : MatIs n tl cnt x) {o : Nat} (ho : o < x.rows.l.length) : x.rows.l.length = cnt ∧ x.rows.l[o].xs = matRow n tl o ∧ x.bias.xs.length = cnt ∧ x.bias.xs.getD o 0 = biasI n cnt o := by
  have h1 : x.rows.l.length = cnt := by
    have := congrArg List.length h.rows
    simpa [matRows] using this
  have h2 : (x.rows.l.map IntsV.xs)[o]? = ((List.range cnt).map (matRow n tl))[o]? := by rw [h.rows]; rfl
  rw [List.getElem?_map, List.getElem?_eq_getElem ho, List.getElem?_map, List.getElem?_range (by omega)] at h2
  have h3 : x.bias.xs.length = cnt := by rw [h.bias]; simp [matBias]
  refine ⟨h1, by simpa using h2, h3, ?_⟩
  rw [h.bias, matBias, List.getD_eq_getElem?_getD, List.getElem?_map, List.getElem?_range (by omega)]; rfl
theorem MatIs.count {n : NodeV} {tl : List Int} {cnt : Nat} {x : MatV} (h : MatIs n tl cnt x) : x.rows.l.length = cnt := by
  have := congrArg List.length h.rows
  simpa [matRows] using this
theorem MatIs.rowsOk {n : NodeV} {tl : List Int} {cnt : Nat} {x : MatV} (h : MatIs n tl cnt x) {w w' : World} {R : Nat → Prop} {N : Nat} (hno : n.ok w') (hD : ((matD x).past N).holds R w') : ∀ u ∈ x.rows.l, u.ok w' := fun u hu => by
  cases hx : x.own with
  | true => exact intsA_ok (h.sane u hu) ((hD.2 hx).1 u hu)
  | false => exact (h.old hx).2 w' hno.data u hu
theorem MatIs.biasOk {n : NodeV} {tl : List Int} {cnt : Nat} {x : MatV} (h : MatIs n tl cnt x) {w w' : World} {R : Nat → Prop} {N : Nat} (hno : n.ok w') (hD : ((matD x).past N).holds R w') : x.bias.ok w' := by
  cases hx : x.own with
  | true => exact intsA_ok h.biasSane (hD.2 hx).2
  | false => rw [(h.old hx).1]; exact hno.bias
end Go.Proofs.Ytdmkdogakbipbaa

/- MV -/
namespace Go.Proofs.Ytdmkdogakbipbaa
open Go.RowKit Go.SX
theorem snoc_take {vals known : List (List Int)} {x : List Int} (h : vals.take (known ++ [x]).length = known ++ [x]) : vals.take known.length = known ∧ vals.getD known.length [] = x := by
  rw [List.length_append, List.length_singleton] at h
  have h1 : (vals.take (known.length + 1)).take known.length = known := by rw [h]; simp
  rw [List.take_take, Nat.min_eq_left (Nat.le_succ _)] at h1
  refine ⟨h1, ?_⟩
  have h2 : (vals.take (known.length + 1))[known.length]? = some x := by rw [h]; simp
  rw [List.getElem?_take, if_pos (Nat.lt_succ_self _)] at h2
  rw [List.getD_eq_getElem?_getD, h2]; rfl
theorem valsQ_at {sh : List (List Int)} : ∀ {l : List NodeV} {known inp vals : List (List Int)}, valsQ sh l known inp = (0, vals) → vals.take known.length = known ∧ ∀ i n, l[i]? = some n → n.kind ≠ 1 → vals.getD (known.length + i) [] = numsAt sh n (vals.take (known.length + i))
  | [], known, inp, vals, h => by
    unfold valsQ at h
    split at h
    · simp at h
    · obtain rfl : known = vals := (Prod.mk.inj h).2
      exact ⟨List.take_of_length_le (Nat.le_refl _), fun i n hn => by simp at hn⟩
  | m :: r, known, inp, vals, h => by
    have step : ∀ (x : List Int) (inp' : List (List Int)), (m.kind ≠ 1 → x = numsAt sh m known) → valsQ sh r (known ++ [x]) inp' = (0, vals) → vals.take known.length = known ∧ ∀ i n, (m :: r)[i]? = some n → n.kind ≠ 1 → vals.getD (known.length + i) [] = numsAt sh n (vals.take (known.length + i)) := fun x inp' hx h' => by
      obtain ⟨a1, a2⟩ := valsQ_at h'
      obtain ⟨b1, b2⟩ := snoc_take a1
      refine ⟨b1, fun i n hn hk => ?_⟩
      cases i with
      | zero =>
        obtain rfl : m = n := by simpa using hn
        rw [Nat.add_zero, b2, b1, hx hk]
      | succ i =>
        have := a2 i n (by simpa using hn) hk
        rw [List.length_append, List.length_singleton, show known.length + 1 + i = known.length + (i + 1) by omega] at this
        exact this
    unfold valsQ at h
    split at h
    · exact step _ _ (fun _ => rfl) h
    · rename_i hk
      cases inp with
      | nil => simp at h
      | cons x xs =>
        simp only at h
        split at h
        · simp at h
        · exact step x xs (fun g => absurd g hk) h
theorem row_mat {n : NodeV} {sh : List (List Int)} {s t : List Int} {cnt : Nat} (h : PlaceIn n sh s t cnt) (hl : isLin n) {o : Nat} (ho : o < cnt) : rowW n t o = matRow n t o := by
  have hk9 : n.kind ≠ 9 := by unfold isLin at hl; omega
  have hml := mat_len h ho
  apply List.ext_getElem
  · rw [rowW_length, hml]
  · intro k h1 h2
    rw [rowW_length] at h1
    have hw := mat_weight h hl (o := o) (i := k) (by omega)
    rw [List.getD_eq_getElem?_getD, List.getElem?_eq_getElem h2] at hw
    simp only [rowW, List.getElem_map, List.getElem_range, if_neg hk9]
    exact hw.symm
theorem wgt9_sum (av : List Int) (o : Nat) : ∀ m : Nat, sumG (gNum av) 0 ((List.range m).map fun (i : Nat) => wgt9 o i) = if o < m then av.getD o 0 else 0
  | 0 => by simp [sumG]
  | m + 1 => by
    rw [List.range_succ, List.map_append, sumG_append, wgt9_sum av o m]
    simp only [List.map_cons, List.map_nil, sumG, List.length_map, List.length_range, Nat.zero_add, gNum, wgt9]
    have key : ∀ x y : Int, ((if (o : Int) = m then (1 : Int) else 0) * x + 0) = (if o = m then x else 0) := fun x _ => by
      by_cases e : o = m
      · rw [if_pos (by omega), if_pos e]; omega
      · rw [if_neg (by omega), if_neg e]; omega
    rw [key _ 0]
    by_cases e : o = m
    · subst e
      rw [if_neg (Nat.lt_irrefl _), if_pos rfl, if_pos (Nat.lt_succ_self _)]; omega
    · rw [if_neg e]
      by_cases e2 : o < m
      · rw [if_pos e2, if_pos (by omega)]; omega
      · rw [if_neg e2, if_neg (by omega)]; omega
theorem node_row {n : NodeV} {sh : List (List Int)} {s t : List Int} {cnt : Nat} (h : PlaceIn n sh s t cnt) (hk : isLin n ∨ n.kind = 9) (h9 : n.kind = 9 → (entries t).toNat = cnt) (a b : List Int) {o : Nat} (ho : o < cnt) : biasI n cnt o + sumG (gNum a) 0 (rowW n t o) = (numsA n cnt t a b).getD o 0 := by
  by_cases hl : isLin n
  · rw [row_mat h hl ho, mat_sum h hl ho _ (gNum_zero a), numsA, if_pos hl, numsLin, List.getD_eq_getElem?_getD, List.getElem?_map, List.getElem?_range ho]
    show _ = (termsG n t o).foldl (fNum a) (biasI n cnt o)
    rw [foldl_num]
  · have hk9 : n.kind = 9 := hk.resolve_left hl
    have hb : biasI n cnt o = 0 := by unfold biasI; rw [if_neg (by omega), if_neg (by omega)]
    have hr : rowW n t o = (List.range cnt).map fun (i : Nat) => wgt9 o i := by
      unfold rowW
      rw [h9 hk9]
      apply List.map_congr_left
      intro i _
      rw [if_pos hk9]
    rw [numsA_plain hl, hb, hr, wgt9_sum, if_pos ho]
    have e : ((List.range cnt).map (numAt n a b)).getD o 0 = numAt n a b o := by rw [List.getD_eq_getElem?_getD, List.getElem?_map, List.getElem?_range ho]; rfl
    rw [e]
    unfold numAt
    rw [if_neg (by omega), if_neg (by omega), if_neg (by omega), if_neg (by omega)]; omega
/-- what the law asks of a node -/
structure RowsDo (n : NodeV) (t : IntsV) (a v : List Int) : Prop where
  ok : (rowsR (at0 n) t).2 = 0
  rows : (rowsR (at0 n) t).1.1 = rowsW n t.xs v.length
  bias : (rowsR (at0 n) t).1.2 = (List.range v.length).map (biasI n v.length)
  arg : a.length = (entries t.xs).toNat
  do_ : ∀ o, o < v.length → biasI n v.length o + sumG (gNum a) 0 (rowW n t.xs o) = v.getD o 0
theorem rows_do {l : List NodeV} {sh inp vals : List (List Int)} (hm : MadeS l sh) (h24 : l.length ≤ 24) (hv : valsQ sh l [] inp = (0, vals)) (hvl : vals.length = l.length) (hlen : ∀ i, i < l.length → ((vals.getD i []).length : Int) = entries (sh.getD i [])) {i : Nat} {n : NodeV} (hn : l[i]? = some n) (hk : isLin n ∨ n.kind = 9) {t : IntsV} (ht : t.xs = sh.getD n.a.toNat []) : (0 ≤ n.a ∧ n.a.toNat < i) ∧ RowsDo n t (vals.getD n.a.toNat []) (vals.getD i []) := by
  have h1 := hm.made.one
  have hc := hm.check h24 none 0 (Int.le_refl 0) (by omega)
  have hck : (check ⟨none, 0, l, 0⟩).1 = 0 := by rw [hc]
  obtain ⟨⟨p1, p2, p3⟩, _, cnt, hcnt, hp⟩ := place_in (g := ⟨none, 0, l, 0⟩) hck (i := i) (n := n) hn
  have hpos := shapes_pos hck
  rw [hc] at p2 hcnt hp hpos
  simp only at p2 hcnt hp hpos
  have hsl := hm.len
  obtain ⟨hil, _⟩ := List.getElem?_eq_some_iff.1 hn
  have hti : (sh.take i).length = i := by rw [List.length_take]; omega
  have hform := hp.node.form
  rw [hti] at hform
  have hlk : 1 ≤ n.kind ∧ n.kind ≠ 1 ∧ n.kind ≠ 2 := by unfold isLin at hk; omega
  have ha := (formed_of hform).a hlk.2.1 hlk.2.2
  have hlt : n.a.toNat < i := by omega
  have hg : (sh.take i).getD n.a.toNat [] = t.xs := by rw [ht, List.getD_eq_getElem?_getD, List.getD_eq_getElem?_getD, List.getElem?_take, if_pos hlt]
  have hte : 0 < entries t.xs := by rw [ht]; exact hpos _ (getD_memL p2)
  obtain ⟨ok1, ok2⟩ := rows_ok hk hform hg hp.node.shape hp.node.near hte
  have hvi := hlen i hil
  have hva := hlen n.a.toNat (by omega)
  have hvc : (vals.getD i []).length = cnt := by omega
  have hcr : cntR (at0 n) t = cnt := by
    unfold cntR
    rw [ok2]
    show (entries (sh.getD i [])).toNat = cnt
    omega
  have hat := (valsQ_at hv).2 i n hn hlk.2.1
  rw [List.length_nil, Nat.zero_add] at hat
  have hnum : vals.getD i [] = numsA n cnt t.xs (vals.getD n.a.toNat []) ((vals.take i).getD n.b.toNat []) := by
    rw [hat]
    unfold numsAt
    have e1 : (vals.take i).length = i := by rw [List.length_take]; omega
    have e2 : (vals.take i).getD n.a.toNat [] = vals.getD n.a.toNat [] := by rw [List.getD_eq_getElem?_getD, List.getD_eq_getElem?_getD, List.getElem?_take, if_pos hlt]
    rw [e1, e2, hcnt, ht]; rfl
  refine ⟨⟨p1, hlt⟩, ⟨by rw [rowsR, if_pos ok1], by rw [rowsR, if_pos ok1, hcr, hvc]; rfl, by rw [rowsR, if_pos ok1, hcr, hvc]; rfl, by rw [ht]; omega, fun o ho => ?_⟩⟩
  rw [← ht] at hp
  rw [hvc] at ho ⊢
  have hk9 : n.kind = 9 → (entries t.xs).toNat = cnt := fun h9 => by
    have hnl : ¬ isLin n := by unfold isLin; omega
    have := (shape_rel2 hp.node.shape hnl (by omega) (by omega)).2.1 (by omega)
    rw [hg] at this
    have := hp.cnt
    omega
  rw [node_row hp hk hk9 _ ((vals.take i).getD n.b.toNat []) ho]
  conv => rhs; rw [hnum]
end Go.Proofs.Ytdmkdogakbipbaa

/- MP -/
namespace Go.Proofs.Ytdmkdogakbipbaa
open Go.SX Go.RowKit
def flatRow (E o : Nat) : List Int := (List.replicate E 0).set o 1
end Go.Proofs.Ytdmkdogakbipbaa

/- MQ -/
namespace Go.Proofs.Ytdmkdogakbipbaa
open Go.SX Go.RowKit
end Go.Proofs.Ytdmkdogakbipbaa

/- MR -/
namespace Go.Proofs.Ytdmkdogakbipbaa
open Go.SX Go.RowKit
structure FlatPre (E o : Nat) (L : List DCell) : Prop where
  len : L.length = E
  is : ∀ k p, L[k]? = some p → if k < o then (∃ b off, p.1.base = some ⟨b, off, none⟩) ∧ E ≤ p.1.cap ∧ p.2 = flatRow E k else p = (⟨none, 0⟩, [])
theorem FlatPre.next {E o : Nat} {L : List DCell} {l : SX.Loc} (h : FlatPre E o L) (ho : o < E) (hl : ∃ b off, l.base = some ⟨b, off, none⟩) (hc : E ≤ l.cap) : FlatPre E (o + 1) (L.set o (l, flatRow E o)) := by
  refine ⟨by rw [List.length_set]; exact h.len, fun k p hp => ?_⟩
  rw [List.getElem?_set] at hp
  by_cases e : o = k
  · rw [if_pos e, if_pos (by rw [h.len]; exact ho)] at hp
    have : (l, flatRow E o) = p := by simpa using hp
    subst this
    rw [if_pos (by omega)]
    exact ⟨hl, hc, by rw [e]⟩
  · rw [if_neg e] at hp
    have := h.is k p hp
    by_cases g : k < o
    · rw [if_pos g] at this; rw [if_pos (by omega)]; exact this
    · rw [if_neg g] at this; rw [if_neg (by omega)]; exact this
theorem FlatPre.take {E o : Nat} {L : List DCell} {l : SX.Loc} {x : List Int} (h : FlatPre E o L) (ho : o < E) : (L.set o (l, x)).take (o + 1) = L.take o ++ [(l, x)] := by
  have hl : o < L.length := by rw [h.len]; exact ho
  rw [List.take_succ_eq_append_getElem (by rw [List.length_set]; exact hl), List.getElem_set_self, List.take_set_of_le (Nat.le_refl _)]
end Go.Proofs.Ytdmkdogakbipbaa

/- LV -/
namespace Go.Proofs.Ytdmkdogakbipbaa
open Go.SX Go.ChangeShapes Go.WideShapes Go.ChangeAt Go.RowKit
/-- numbers as they come in -/
structure IntsV.rawL (w : World) (v : IntsV) : Prop where
  rows : RowsI w v.base 1 (ints v.xs)
  fits : ∀ x ∈ v.xs, -9223372036854775808 ≤ x ∧ x ≤ 9223372036854775807
  room : v.xs.length ≤ v.cap
theorem IntsV.rawL.ok {w : World} {v : IntsV} (h : v.rawL w) (hf : v.xs.length ≤ 1000000) : v.ok w := ⟨h.rows, h.fits, h.room, hf⟩
end Go.Proofs.Ytdmkdogakbipbaa

/- MB -/
namespace Go.Proofs.Ytdmkdogakbipbaa
open Go.SX Go.ChangeShapes Go.WideShapes Go.ChangeAt Go.RowKit
/-- rows as they come in -/
structure ShapesV.rawL (w : World) (v : ShapesV) : Prop where
  rows : RowsI w v.base 1 (shRows v.l)
  each : ∀ s ∈ v.l, s.rawL w
theorem IntsV.rawL.later {w w' : World} {R : Nat → Prop} {v : IntsV} (h : v.rawL w) (hb : (baseA w).holds R w') : v.rawL w' := ⟨rows_base hb h.rows, h.fits, h.room⟩
theorem ShapesV.rawL.later {w w' : World} {R : Nat → Prop} {v : ShapesV} (h : v.rawL w) (hb : (baseA w).holds R w') : v.rawL w' := ⟨rows_base hb h.rows, fun s hs => (h.each s hs).later hb⟩
end Go.Proofs.Ytdmkdogakbipbaa

/- MS -/
namespace Go.Proofs.Ytdmkdogakbipbaa
open Go.SX Go.ChangeShapes Go.WideShapes Go.ChangeAt Go.RowKit
def rowsD (p : ShapesV × IntsV) : Asn := (diagA p.1).and (intsA p.2)
theorem call_rows {cx : Cx} {f : FuncId} {args : List SV} {H : Heap} {S : Asn} {nx : Nat} {K : SV → Heap → Asn → Nat → Prop} (r : (List (List Int) × List Int) × Int) (hf : ∀ ar w, (callFunc f ar).run cx.P w = .ok (.enter f ar) w)
    (hc : ∀ ρ w, Abs cx.B ρ nx H S w → Calls cx.P f (SV.rfs ρ args).toArray w (RowsPost w r)) (h : ∀ (x : ShapesV) (y : IntsV), DiagIs r.1.1 x → y.xs = r.1.2 → y.sane → K (.c (.tuple #[x.val, y.val, .int .i64 r.2])) H (S.and ((rowsD (x, y)).past cx.B.w0.heap.size)) nx) : callK cx f args H S nx K := by
  refine call_past hf (fun p : ShapesV × IntsV => .tuple #[p.1.val, p.2.val, .int .i64 r.2]) rowsD (fun p => DiagIs r.1.1 p.1 ∧ p.2.xs = r.1.2 ∧ p.2.sane) (fun ρ w' hw => (hc ρ w' hw).mono ?_) (fun p hp => h p.1 p.2 hp.1 hp.2.1 hp.2.2)
  rintro e w2 ⟨x, y, h1, h2, h3, h4, h5⟩
  exact ⟨(x, y), h1, h2, h3, h4, h5⟩
end Go.Proofs.Ytdmkdogakbipbaa

/- JP -/
namespace Go.Proofs.Ytdmkdogakbipbaa
abbrev dtJP0 : Go.SX.DT := (.take 0 (.take 1 (.take 2 (.take 3 (.take 4 (.take 5 (.one 6 (.take 7 (.take 8 (.take 9 (.take 10 (.take 11 (.done)))))))))))))
abbrev dtJP1 : Go.SX.DT := (.take 0 (.take 1 (.take 2 (.take 3 (.take 4 (.take 5 (.take 6 (.take 7 (.take 8 (.take 9 (.take 10 (.take 11 (.take 12 (.take 13 (.one 14 (.one 15 (.one 16 (.done))))))))))))))))))
abbrev dtJP2 : Go.SX.DT := (.take 0 (.take 1 (.take 2 (.take 3 (.take 4 (.take 6 (.take 7 (.take 8 (.take 9 (.take 10 (.one 5 (.one 11 (.one 12 (.take 13 (.done)))))))))))))))
open Go.SX Go.RowKit
theorem spRows_getD {l : List Sp} {k : Nat} (h : k < l.length) : (spRows l)[k]? = some [.int .i64 (l.getD k (0, 0)).1, .int .i64 (l.getD k (0, 0)).2] := by
  rw [spRows_get h, List.getD_eq_getElem?_getD, List.getElem?_eq_getElem h]; rfl
set_option maxRecDepth 20000 in
set_option maxHeartbeats 4000000 in
theorem span_lin (w : World) (n : NodeV) (sh : List (List Int)) (s : List Int) (sv : ShapesV) (hs : sv.ok w) (t : IntsV) (cnt : Nat) (h : PlaceIn n sh s t.xs cnt) (hl : isLin n) (hno : n.ok w) (ht : sv.l[n.a.toNat]? = some t) (ha0 : 0 ≤ n.a) (b2 : Option Addr) (c2 : Nat) (acc : List Sp) (hacc : RowsI w b2 2 (spRows acc)) (hlt : n.a.toNat < acc.length) (hbd : bd20 (acc.getD n.a.toNat (0, 0)).1 ∧ bd20 (acc.getD n.a.toNat (0, 0)).2) : Calls Try.prog 84 #[n.valA, sv.val, .slice b2 acc.length c2] w fun e w' => e = .returned (spanV (spanE (linEnds n cnt (termsG n t.xs) (acc.getD n.a.toNat (0, 0))))) ∧ Ext w w' := by
  obtain ⟨htl, hte⟩ := List.getElem?_eq_some_iff.1 ht
  have htm : t ∈ sv.l := hte ▸ List.getElem_mem htl
  have hto := hs.each t htm
  obtain ⟨a2, ha2⟩ : ∃ a, b2 = some a := base_some (j := n.a.toNat) hacc (by rw [spRows_length]; exact hlt)
  obtain ⟨sa, hsa⟩ : ∃ a, sv.base = some a := base_some (j := n.a.toNat) hs.rows (by rw [shRows_length]; exact htl)
  have hrowA := spRows_getD hlt
  have hrowT : (shRows sv.l)[n.a.toNat]? = some [t.val] := by rw [shRows_get htl, hte]
  have hna : n.a = (n.a.toNat : Int) := (Int.toNat_of_nonneg ha0).symm
  have hfew := h.few
  have hsums : ∀ o, o < cnt → ∀ g : Nat → Int → Int, (∀ k, g k 0 = 0) → sumG g 0 (matRow n t.xs o) = sumT g (termsG n t.xs o) := fun o ho g hg => mat_sum h hl ho g hg
  have hrl : ∀ o, o < cnt → (matRow n t.xs o).length = (entries t.xs).toNat := fun o ho => mat_len h ho
  have hrb : ∀ o, ∀ x ∈ matRow n t.xs o, bd20 x := fun o => mat_bd h hl o
  obtain ⟨nd, nb, _, _, _⟩ := near_in h.node.near
  have hsz := (entries_bd t.xs).2
  have hmat : ∀ w', n.ok w' → t.ok w' → Calls Try.prog 66 #[n.valA, t.val] w' (MatPost w' n t.xs cnt) := fun w' h1 h2 => mat_all w' n sh s t cnt h hl h1 h2
  have hpos : 1 ≤ (entries t.xs).toNat := by have := (h.first hl).2; omega
  have hkind : n.kind = 3 ∨ n.kind = 4 ∨ n.kind = 5 := hl
  have hTbf : (∀ o, o < cnt → (termsG n t.xs o).length ≤ 64) ∧ ∀ o, o < cnt → ∀ s ∈ termsG n t.xs o, bd20 s.1 := by
    obtain ⟨F, P0, hL⟩ := h.lin hl
    exact ⟨(hL.terms w hto hno).few, (hL.terms w hto hno).bd⟩
  generalize acc.getD n.a.toNat (0, 0) = a at *
  obtain ⟨ha1, hah⟩ := hbd
  clear hl
  have hlinC : ∀ w', Calls Try.prog 85 #[.int .i64 n.kind] w' fun e w'' => e = .returned (.bool true) ∧ Ext w' w'' := fun w' => by
    have := linear_any w' n.kind
    rw [decide_eq_true hkind] at this
    exact this
  refine calls_of tab tabOk Try.func84 rfl rfl rfl [] (fun _ => ⟨none, 0⟩) [.agg [.c (.int .i64 n.kind), .c (.int .i64 n.a), .c (.int .i64 n.b), .c n.shape.val, .c (.int .i64 n.lo), .c (.int .i64 n.hi), .c (.int .i64 n.size), .c n.data.val, .c n.bias.val], .c sv.val, .c (.slice b2 acc.length c2)] [] (baseA w) 0 rfl rfl (by show 3 ≤ _; decide) (abs_base w) ?_
  (repeat' ((conv => whnf) <;> first | (show callK _ 85 _ _ _ _ _; refine call_pure (f := 85) Try.call85 (.bool true) (fun ρ w' hw => hlinC w') ?_) | (show idxK _ _ _ _ _; (first | refine idx_of a2 n.a.toNat ha2 hna hlt ?_ | refine idx_of sa n.a.toNat hsa hna htl ?_)) | (show roAggK _ _ _ _; (refine roAgg_row (fun R w' h => by rw [← ha2]; exact rows_base h hacc) _ hrowA rfl ?_)) | (show roK _ _ _; (refine ro_row0 (fun R w' h => by rw [← hsa]; exact rows_base h hs.rows) _ _ hrowT rfl ?_)) | (show callK _ 66 _ _ _ _ _; refine call_mat (f := 66) n t.xs cnt Try.call66 (fun ρ w' hw => hmat w' (holds_of_abs hw fun R h => hno.later h) (holds_of_abs hw fun R h => hto.later h)) (fun x hx => ?_)) | (show drawK _ 8 _ _ _ _ _ _; refine draw_tree tabOk mixed [] _ dtJP0 (by kernel_rfl) (by kernel_rfl) (by kernel_rfl) (List.Sublist.refl _) ?_) | (show drawK _ 28 _ _ _ _ _ _; refine draw_tree tabOk mixed [16] _ dtJP1 (by kernel_rfl) (by kernel_rfl) (by kernel_rfl) (List.Sublist.refl _) ?_) | (show drawK _ 31 _ _ _ _ _ _; refine draw_tree tabOk mixed [] _ dtJP2 (by kernel_rfl) (by kernel_rfl) (by kernel_rfl) (List.Sublist.refl _) ?_) | (show drawK _ _ _ _ _ _ _ _; refine draw_quiet tabOk mixed (by kernel_rfl) ?_) | (show Wp _ _ _ _ _ _ _; refine Wp.go tabOk rfl ?_) | (show @cmpK _ _ _; (first | refine cmpY ?_ | refine cmpN ?_ | (refine cmp_both ?_ ?_ <;> intro _))) | (show wrapK _ _ _; refine wrapA ?_) | (show leK _ _ _; refine leA ?_) | (show roomK _ _ _; refine roomA ?_) | (show ltK _ _ _; refine ltA ?_) | (show _ ∧ _; refine ⟨?_, ?_⟩) | (show keepK _ _ _ _ _; refine keepA ?_) | refine own_keep ?_ | refine ap_old ?_))
  all_goals (conv => whnf)
  have hxc := hx.count
  refine Wp.know (p := ∃ a, x.rows.base = some a) (fun ρ w' hw => holds_of_abs hw fun R h => base_some (j := 0) (rowsA_in h.2.1) (by rw [shRows_length]; omega)) ?_
  rintro ⟨xa, hxa⟩
  refine Wp.know (p := ∃ a, x.bias.base = some a) (fun ρ w' hw => holds_of_abs hw fun R h => (hx.biasOk (w := w) (hno.later h.1) h.2).base (by rw [hx.bias]; simp [matBias]; omega)) ?_
  rintro ⟨ba, hba⟩
  have hxr : ∀ (R : Nat → Prop) w', ((baseA w).and ((matD x).past w.heap.size)).holds R w' → RowsI w' (some xa) 1 (shRows x.rows.l) := fun R w' h => by rw [← hxa]; exact rowsA_in h.2.1
  have hxb : ∀ (R : Nat → Prop) w', ((baseA w).and ((matD x).past w.heap.size)).holds R w' → RowsI w' (some ba) 1 (ints x.bias.xs) := fun R w' h => by rw [← hba]; exact (hx.biasOk (w := w) (hno.later h.1) h.2).rows
  refine Wp.loop (σ := Nat × Nat) 4 (fun ⟨o, m⟩ => [(6, .lp 1 0 0 0), (7, .lp 2 0 0 0), (9, .c x.bias.val), (10, .os 3 m), (56, .c x.rows.val), (57, .c (.int .i64 cnt)), (58, .c (.int .i64 o))]) (fun ⟨o, m⟩ => [(3, .rows (ints (linPre n cnt o (termsG n t.xs) a)) 1 3), (2, .box [.c (.int .i64 a.1), .c (.int .i64 a.2)] 68), (1, .box [.c (.int .i64 0), .c (.int .i64 0)] 68)]) (fun _ => (baseA w).and ((matD x).past w.heap.size))
    (fun ⟨o, m⟩ => o ≤ cnt ∧ m = 2 * o) (fun s => cnt - s.1) (0, 0) [(3, none)] (by decide) (fun s => ⟨rfl, rfl⟩) ⟨Nat.zero_le _, rfl⟩ ⟨rfl, ⟨rfl, rfl, rfl, rfl, rfl, ?_, rfl, trivial⟩, ⟨rfl, (by repeat (first | exact List.mem_cons_self | apply List.mem_cons_of_mem)), (by repeat (first | exact List.mem_cons_self | apply List.mem_cons_of_mem)), trivial⟩, fun _ _ h => h⟩ ?_
  · rw [← hxc]; rfl
  rintro ⟨o, m⟩ ⟨ho, hm⟩
  have hml := linPre_len n cnt (termsG n t.xs) a o
  by_cases hlo : o < cnt
  · have hlx : o < x.rows.l.length := by omega
    obtain ⟨_, hu, hbl, hbv⟩ := hx.row hlx
    have hsn := linPre_snoc n cnt o (termsG n t.xs) a
    have hbd := bias_bd nb cnt o
    have hrow := shRows_get hlx
    have hum := List.getElem_mem hlx
    have hul := hrl o hlo
    have hub := hrb o
    have hsu := hsums o hlo
    generalize x.rows.l[o] = u at *
    rw [← hu] at hul hub hsu
    refine Wp.know (p := ∃ a, u.base = some a) (fun ρ w' hw => holds_of_abs hw fun R h => (hx.rowsOk (w := w) (hno.later h.1) h.2 u hum).base (by omega)) ?_
    rintro ⟨ua, hua⟩
    have hur : ∀ (R : Nat → Prop) w', ((baseA w).and ((matD x).past w.heap.size)).holds R w' → RowsI w' (some ua) 1 (ints u.xs) := fun R w' h => by rw [← hua]; exact (hx.rowsOk (w := w) (hno.later h.1) h.2 u hum).rows
    have hul64 : u.xs.length ≤ 64 := by omega
    (repeat' ((conv => whnf) <;> first | (show idxK _ _ _ _ _; (first | refine idx_of xa o hxa rfl hlx ?_ | refine idx_of ba o hba rfl (by omega) ?_)) | (show roK _ _ _; (first | refine ro_row0 hxr _ _ hrow rfl ?_ | refine ro_intv hxb (j := o) (by omega) hbv ?_)) | (show drawK _ 28 _ _ _ _ _ _; refine draw_tree tabOk mixed [16] _ dtJP1 (by kernel_rfl) (by kernel_rfl) (by kernel_rfl) (List.Sublist.refl _) ?_) | (show drawK _ 31 _ _ _ _ _ _; refine draw_tree tabOk mixed [] _ dtJP2 (by kernel_rfl) (by kernel_rfl) (by kernel_rfl) (List.Sublist.refl _) ?_) | (show drawK _ _ _ _ _ _ _ _; refine draw_quiet tabOk mixed (by kernel_rfl) ?_) | (show Wp _ _ _ _ _ _ _; refine Wp.go tabOk rfl ?_) | (show @cmpK _ _ _; (first | refine cmpY ?_ | refine cmpN ?_ | (refine cmp_both ?_ ?_ <;> intro _))) | (show wrapK _ _ _; refine wrapA ?_) | (show leK _ _ _; refine leA ?_) | (show roomK _ _ _; refine roomA ?_) | (show ltK _ _ _; refine ltA ?_) | (show _ ∧ _; refine ⟨?_, ?_⟩) | (show keepK _ _ _ _ _; refine keepA ?_) | refine own_keep ?_ | refine ap_old ?_))
    all_goals (conv => whnf)
    refine Wp.loop (σ := Nat × Int × Int) 4 (fun ⟨j, lo, hi⟩ => [(6, .lp 1 0 0 0), (7, .lp 2 0 0 0), (9, .c x.bias.val), (10, .os 3 m), (56, .c x.rows.val), (57, .c (.int .i64 cnt)), (58, .c (.int .i64 o)), (13, .c (.int .i64 lo)), (14, .c (.int .i64 hi)), (71, .c u.val), (72, .c (.int .i64 u.xs.length)), (73, .c (.int .i64 j))]) (fun _ => [(3, .rows (ints (linPre n cnt o (termsG n t.xs) a)) 1 3), (2, .box [.c (.int .i64 a.1), .c (.int .i64 a.2)] 68), (1, .box [.c (.int .i64 0), .c (.int .i64 0)] 68)]) (fun _ => (baseA w).and ((matD x).past w.heap.size))
      (fun ⟨j, lo, hi⟩ => j ≤ u.xs.length ∧ lo = biasI n cnt o + sumG (gLo a) 0 (u.xs.take j) ∧ hi = biasI n cnt o + sumG (gHi a) 0 (u.xs.take j)) (fun s => u.xs.length - s.1) (0, biasI n cnt o, biasI n cnt o) [] (by decide) (fun s => ⟨rfl, rfl⟩) ⟨Nat.zero_le _, by simp [sumG], by simp [sumG]⟩ ⟨rfl, ⟨rfl, rfl, rfl, rfl, rfl, rfl, rfl, rfl, rfl, rfl, rfl, rfl, trivial⟩, ⟨(by repeat (first | exact List.mem_cons_self | apply List.mem_cons_of_mem)), (by repeat (first | exact List.mem_cons_self | apply List.mem_cons_of_mem)), (by repeat (first | exact List.mem_cons_self | apply List.mem_cons_of_mem)), trivial⟩, fun _ _ h => h⟩ ?_
    rintro ⟨j, lo, hi⟩ ⟨hj, hlv, hhv⟩
    by_cases hjl : j < u.xs.length
    · have s1 := sumG_snoc (gLo a) hjl
      have s2 := sumG_snoc (gHi a) hjl
      have hG1 : ∀ k v, v ∈ u.xs → -1099511627776 ≤ gLo a k v ∧ gLo a k v ≤ 1099511627776 := fun k v hv => by
        have q1 := mul_bd (A := 1048576) (B := 1048576) (hub v hv) ha1
        have q2 := mul_bd (A := 1048576) (B := 1048576) (hub v hv) hah
        unfold gLo; omega
      have hG2 : ∀ k v, v ∈ u.xs → -1099511627776 ≤ gHi a k v ∧ gHi a k v ≤ 1099511627776 := fun k v hv => by
        have q1 := mul_bd (A := 1048576) (B := 1048576) (hub v hv) ha1
        have q2 := mul_bd (A := 1048576) (B := 1048576) (hub v hv) hah
        unfold gHi; omega
      have b1 := sumG_bd40 (gLo a) (l := u.xs) (j := j) (by omega) hG1
      have b2 := sumG_bd40 (gHi a) (l := u.xs) (j := j) (by omega) hG2
      have hv : bd20 (u.xs.getD j 0) := getD_bd hub j
      have q1 := mul_bd (A := 1048576) (B := 1048576) hv ha1
      have q2 := mul_bd (A := 1048576) (B := 1048576) hv hah
      have e1 : gLo a j (u.xs.getD j 0) = min (u.xs.getD j 0 * a.1) (u.xs.getD j 0 * a.2) := rfl
      have e2 : gHi a j (u.xs.getD j 0) = max (u.xs.getD j 0 * a.1) (u.xs.getD j 0 * a.2) := rfl
      clear hG1 hG2 hsu hrl hsums hsn
      unfold bd20 at hbd
      (repeat' ((conv => whnf) <;> first | (show idxK _ _ _ _ _; refine idx_of ua j hua rfl hjl ?_) | (show roK _ _ _; refine ro_int hur (j := j) hjl ?_) | (show drawK _ 28 _ _ _ _ _ _; refine draw_tree tabOk mixed [16] _ dtJP1 (by kernel_rfl) (by kernel_rfl) (by kernel_rfl) (List.Sublist.refl _) ?_) | (show drawK _ 31 _ _ _ _ _ _; refine draw_tree tabOk mixed [] _ dtJP2 (by kernel_rfl) (by kernel_rfl) (by kernel_rfl) (List.Sublist.refl _) ?_) | (show drawK _ _ _ _ _ _ _ _; refine draw_quiet tabOk mixed (by kernel_rfl) ?_) | (show Wp _ _ _ _ _ _ _; refine Wp.go tabOk rfl ?_) | (show @cmpK _ _ _; (first | refine cmpY ?_ | refine cmpN ?_ | (refine cmp_both ?_ ?_ <;> intro _))) | (show wrapK _ _ _; refine wrapA ?_) | (show leK _ _ _; refine leA ?_) | (show roomK _ _ _; refine roomA ?_) | (show ltK _ _ _; refine ltA ?_) | (show _ ∧ _; refine ⟨?_, ?_⟩) | (show keepK _ _ _ _ _; refine keepA ?_) | refine own_keep ?_ | refine ap_old ?_))
      all_goals (conv => whnf)
      all_goals exact ⟨(j + 1, _, _), [], ⟨hjl, by rw [s1]; omega, by rw [s2]; omega⟩, by simp only; omega, rfl, ⟨rfl, rfl, rfl, rfl, rfl, rfl, rfl, rfl, rfl, rfl, rfl, rfl, trivial⟩, ⟨(by repeat (first | exact List.mem_cons_self | apply List.mem_cons_of_mem)), (by repeat (first | exact List.mem_cons_self | apply List.mem_cons_of_mem)), (by repeat (first | exact List.mem_cons_self | apply List.mem_cons_of_mem)), trivial⟩, fun _ _ h => h⟩
    · have hjz : j = u.xs.length := Nat.le_antisymm hj (Nat.not_lt.1 hjl)
      subst hjz
      rw [List.take_of_length_le (Nat.le_refl _), hsu _ (gLo_zero a), ← foldl_lo] at hlv
      rw [List.take_of_length_le (Nat.le_refl _), hsu _ (gHi_zero a), ← foldl_hi] at hhv
      (repeat' ((conv => whnf) <;> first | (show leK _ _ _; (refine le_of (by rw [ints_length, hml, hm]; exact Nat.le_refl _) ?_)) | (show roomK _ _ _; (refine room_of (by show (m + 2) * 8 ≤ 140737488355328; omega) ?_)) | (show drawK _ 28 _ _ _ _ _ _; refine draw_tree tabOk mixed [16] _ dtJP1 (by kernel_rfl) (by kernel_rfl) (by kernel_rfl) (List.Sublist.refl _) ?_) | (show drawK _ 31 _ _ _ _ _ _; refine draw_tree tabOk mixed [] _ dtJP2 (by kernel_rfl) (by kernel_rfl) (by kernel_rfl) (List.Sublist.refl _) ?_) | (show drawK _ _ _ _ _ _ _ _; refine draw_quiet tabOk mixed (by kernel_rfl) ?_) | (show Wp _ _ _ _ _ _ _; refine Wp.go tabOk rfl ?_) | (show @cmpK _ _ _; (first | refine cmpY ?_ | refine cmpN ?_ | (refine cmp_both ?_ ?_ <;> intro _))) | (show wrapK _ _ _; refine wrapA ?_) | (show leK _ _ _; refine leA ?_) | (show roomK _ _ _; refine roomA ?_) | (show ltK _ _ _; refine ltA ?_) | (show _ ∧ _; refine ⟨?_, ?_⟩) | (show keepK _ _ _ _ _; refine keepA ?_) | refine own_keep ?_ | refine ap_old ?_))
      all_goals (conv => whnf)
      exact ⟨(o + 1, m + 2), [(3, some 5)], ⟨hlo, by omega⟩, by simp only; omega, rfl, ⟨rfl, rfl, rfl, rfl, rfl, rfl, rfl, trivial⟩, ⟨by
        show (5, Ent.rows (ints (linPre n cnt (o + 1) (termsG n t.xs) a)) 1 3) ∈ _
        rw [hsn, ← hlv, ← hhv]; exact ints_two _ _ _ (by rw [hml, hm]), (by repeat (first | exact List.mem_cons_self | apply List.mem_cons_of_mem)), (by repeat (first | exact List.mem_cons_self | apply List.mem_cons_of_mem)), trivial⟩, fun _ _ h => h⟩
  · have hoz : o = cnt := Nat.le_antisymm ho (Nat.not_lt.1 hlo)
    subst hoz
    have hfit : ∀ x ∈ linPre n o o (termsG n t.xs) a, i64 x := fun x hx => by
      obtain ⟨q, hq, hx⟩ := List.mem_flatMap.1 hx
      rw [List.mem_range] at hq
      have g := lin_bd ⟨ha1, hah⟩ (l := termsG n t.xs q) (s := biasI n o q) (hTbf.2 q hq)
      have gf := hTbf.1 q hq
      have gb := bias_bd nb o q
      unfold bd20 at gb
      simp only [List.mem_cons, List.not_mem_nil, or_false] at hx
      unfold i64
      rcases hx with rfl | rfl <;> omega
    have hmL : m = (linPre n o o (termsG n t.xs) a).length := by omega
    subst hmL
    refine Wp.freezeN 3 w.heap.size (k := 1) (xs := ints (linPre n o o (termsG n t.xs) a)) (T := 3) (by repeat (first | exact List.mem_cons_self | apply List.mem_cons_of_mem)) (fun R w' h b hb => (h.1 b hb).1) (fun l1 hl1 => ?_)
    rw [ints_length] at hl1
    (repeat' ((conv => whnf) <;> first | (show callK _ 108 _ _ _ _ _; (refine call_pure (f := 108) Try.call108 (spanV (spanE (linPre n o o (termsG n t.xs) a))) (fun ρ w' hw => cover_any w' ⟨l1.base, l1.cap, linPre n o o (termsG n t.xs) a⟩ (holds_of_abs hw fun R h => ⟨rowsA_in h.2, hfit, hl1, by simp only; omega⟩) (by simp only; omega)) ?_)) | (show drawK _ 28 _ _ _ _ _ _; refine draw_tree tabOk mixed [16] _ dtJP1 (by kernel_rfl) (by kernel_rfl) (by kernel_rfl) (List.Sublist.refl _) ?_) | (show drawK _ 31 _ _ _ _ _ _; refine draw_tree tabOk mixed [] _ dtJP2 (by kernel_rfl) (by kernel_rfl) (by kernel_rfl) (List.Sublist.refl _) ?_) | (show drawK _ _ _ _ _ _ _ _; refine draw_quiet tabOk mixed (by kernel_rfl) ?_) | (show Wp _ _ _ _ _ _ _; refine Wp.go tabOk rfl ?_) | (show @cmpK _ _ _; (first | refine cmpY ?_ | refine cmpN ?_ | (refine cmp_both ?_ ?_ <;> intro _))) | (show wrapK _ _ _; refine wrapA ?_) | (show leK _ _ _; refine leA ?_) | (show roomK _ _ _; refine roomA ?_) | (show ltK _ _ _; refine ltA ?_) | (show _ ∧ _; refine ⟨?_, ?_⟩) | (show keepK _ _ _ _ _; refine keepA ?_) | refine own_keep ?_ | refine ap_old ?_))
    all_goals (conv => whnf)
    all_goals exact ends_of (fun _ _ h => h.1.1) (fun _ => rfl) rfl
end Go.Proofs.Ytdmkdogakbipbaa

